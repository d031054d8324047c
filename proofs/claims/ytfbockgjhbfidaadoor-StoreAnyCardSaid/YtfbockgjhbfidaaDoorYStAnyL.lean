/- Texts of this session, cut down to what one claim needs and joined: StAnyL. -/
import Derived.Test.YtfbockgjhbfidaaDoorYStAny
set_option linter.unusedVariables false
set_option linter.unusedSimpArgs false
namespace Go.Proofs.YtfbockgjhbfidaaDoor.Pr
open Go.RowKit Go.Proofs.YtfbockgjhbfidaaDoorW.PrintWords Go.Proofs.YtfbockgjhbfidaaDoorW.PrintLast Go.Proofs.YtfbockgjhbfidaaDoorW.PrintMore

theorem pair_of {α : Type} {p : List α × Option Int} {c : Int} (h1 : p.1 = []) (h2 : p.2 = some c) : p = ([], some c) := by cases p; simp_all
theorem pair_ok {α : Type} {p : List α × Option Int} (h2 : p.2 = none) : p = (p.1, none) := by cases p; simp_all
theorem any_all (A0 : Option Addr) (c0 : Nat) (s : List Ser) (A1 : Option Addr) (c1 : Nat) (a : Lbs) (tp vp : Int) (A2 : Option Addr) (c2 : Nat) (b : Lbs) (tq vq : Int) (w : World)
    (hL : LaidAll w) (hr0 : Kd.C k71 w A0 s.length s) (hc0 : s.length ≤ c0) (hr1 : Kd.C k46 w A1 a.length a) (hc1 : a.length ≤ c1) (hr2 : Kd.C k46 w A2 b.length b) (hc2 : b.length ≤ c2) (ws : wfS s) (wa : a.length ≤ 9223372036854775807) (wb : b.length ≤ 9223372036854775807) :
    Calls Tryd.prog 8 #[.slice A0 s.length c0, .slice A1 a.length c1, .agg #[.int .i64 tp, .int .u64 vp], .slice A2 b.length c2, .agg #[.int .i64 tq, .int .u64 vq]] w fun e w' => e = .returned (.bool true) ∧ Below w.heap.size w w' := by
  obtain ⟨k5, r5, h5, hs5⟩ := short05_ex s ws
  cases r5 with
  | false => exact any_r1 A0 c0 s A1 c1 a tp vp A2 c2 b tq vq w hL hr0 hc0 hr1 hc1 hr2 hc2 k5 h5
  | true =>
  have hta := short_some a wa (a.length + 1) (by omega)
  cases hA : shortB a with
  | false => rw [hA] at hta; exact any_r2 A0 c0 s A1 c1 a tp vp A2 c2 b tq vq w hL hr0 hc0 hr1 hc1 hr2 hc2 k5 _ h5 hta
  | true =>
  rw [hA] at hta
  have htb := short_some b wb (b.length + 1) (by omega)
  cases hB : shortB b with
  | false => rw [hB] at htb; exact any_r3 A0 c0 s A1 c1 a tp vp A2 c2 b tq vq w hL hr0 hc0 hr1 hc1 hr2 hc2 k5 _ _ h5 hta htb
  | true =>
  rw [hB] at htb
  have hma := refMake_some a hA 5000 (by omega)
  have hmb := refMake_some b hB 5000 (by omega)
  rw [refV_eq] at hma hmb
  cases ea : (makeV (sortL a)).2 with
  | some ca => rw [ea] at hma; exact any_r4 A0 c0 s A1 c1 a tp vp A2 c2 b tq vq w hL hr0 hc0 hr1 hc1 hr2 hc2 k5 _ _ _ _ _ _ h5 hta htb hma hmb
  | none =>
  rw [ea] at hma
  cases eb : (makeV (sortL b)).2 with
  | some cb => rw [eb] at hmb; exact any_r5 A0 c0 s A1 c1 a tp vp A2 c2 b tq vq w hL hr0 hc0 hr1 hc1 hr2 hc2 k5 _ _ _ _ _ h5 hta htb hma hmb
  | none =>
  rw [eb] at hmb
  have sa := (short_small hA).1
  have sb := (short_small hB).1
  have la : (makeV (sortL a)).1.length ≤ 1000 := by have := madeLen (sortL a); rw [(sortL_perm a).length_eq] at this; exact Nat.le_trans this sa.1
  have lb : (makeV (sortL b)).1.length ≤ 1000 := by have := madeLen (sortL b); rw [(sortL_perm b).length_eq] at this; exact Nat.le_trans this sb.1
  have hz := refCmp_some (makeV (sortL a)).1 (makeV (sortL b)).1 (by omega) (by omega) 5000 (by omega)
  by_cases z0 : cmpLs (makeV (sortL a)).1 (makeV (sortL b)).1 = 0
  · rw [z0] at hz
    exact any_r6 A0 c0 s A1 c1 a tp vp A2 c2 b tq vq w hL hr0 hc0 hr1 hc1 hr2 hc2 k5 _ _ _ _ _ _ h5 hta htb hma hmb hz
  · have z1 : (cmpLs (makeV (sortL a)).1 (makeV (sortL b)).1 == 0) = false := by rw [beq_eq_false_iff_ne]; exact z0
    obtain ⟨hx, hn⟩ := hs5 rfl
    have hsm : ∀ x ∈ s, smallL x.f0 := fun x hm => (short_small (hx x hm)).1
    have hok := okS_of hsm (by omega)
    cases e1 : (appendV s a tp vp).2 with
    | some d1 =>
      have v1 := pair_of (append_fail e1) e1
      cases e2 : (appendV s b tq vq).2 with
      | some d2 => exact any_r7 A0 c0 s A1 c1 a tp vp A2 c2 b tq vq w hL hr0 hc0 hr1 hc1 hr2 hc2 k5 _ _ _ _ _ _ _ z0 z1 d1 d2 h5 hta htb hma hmb hz hok sa sb v1 (pair_of (append_fail e2) e2)
      | none => exact any_r8 A0 c0 s A1 c1 a tp vp A2 c2 b tq vq w hL hr0 hc0 hr1 hc1 hr2 hc2 k5 _ _ _ _ _ _ _ z0 z1 d1 _ h5 hta htb hma hmb hz hok sa sb v1 (pair_ok e2)
    | none =>
      cases e2 : (appendV s b tq vq).2 with
      | some d2 => exact any_r9 A0 c0 s A1 c1 a tp vp A2 c2 b tq vq w hL hr0 hc0 hr1 hc1 hr2 hc2 k5 _ _ _ _ _ _ _ z0 z1 d2 _ h5 hta htb hma hmb hz hok sa sb (pair_ok e1) (pair_of (append_fail e2) e2)
      | none =>
        obtain ⟨m, n, o, v1, v2, v3, v4, om, on, oo⟩ := any_plain hsm hn sa sb (fun h => z0 ((cmpLs_zero _ _).2 h)) e1 e2
        exact any_r10 A0 c0 s A1 c1 a tp vp A2 c2 b tq vq w hL hr0 hc0 hr1 hc1 hr2 hc2 k5 _ _ _ _ _ _ _ z0 z1 _ m n o h5 hta htb hma hmb hz hok sa sb v1 v2 v3 v4 om on (same_self o oo)
end Go.Proofs.YtfbockgjhbfidaaDoor.Pr
