/- Texts of this session, cut down to what one claim needs and joined: StGrowsL. -/
import Derived.Test.YtfbockgjhbfidaaDoorZStGrows
import Derived.Test.YtfbockgjhbfidaaDoorZStGrows4
import Derived.Test.YtfbockgjhbfidaaDoorZStGrows5
import Derived.Test.YtfbockgjhbfidaaDoorZStPure3
set_option linter.unusedVariables false
set_option linter.unusedSimpArgs false
namespace Go.Proofs.YtfbockgjhbfidaaDoor.Pr
open Go.RowKit Go.Proofs.YtfbockgjhbfidaaDoorW.PrintWords Go.Proofs.YtfbockgjhbfidaaDoorW.PrintLast Go.Proofs.YtfbockgjhbfidaaDoorW.PrintMore

theorem pair_of' {α : Type} {p : List α × Option Int} {c : Int} (h1 : p.1 = []) (h2 : p.2 = some c) : p = ([], some c) := by cases p; simp_all
theorem grows_all (A0 : Option Addr) (c0 : Nat) (s : List Ser) (A1 : Option Addr) (c1 : Nat) (l : Lbs) (tp vp : Int) (v : Int) (w : World)
    (hL : LaidAll w) (hr0 : Kd.C k71 w A0 s.length s) (hc0 : s.length ≤ c0) (hr1 : Kd.C k46 w A1 l.length l) (hc1 : l.length ≤ c1) (ws : wfS s) (wl : l.length ≤ 9223372036854775807) :
    Calls Tryd.prog 10 #[.slice A0 s.length c0, .slice A1 l.length c1, .agg #[.int .i64 tp, .int .u64 vp], .int .u64 v] w fun e w' => e = .returned (.bool true) ∧ Below w.heap.size w w' := by
  obtain ⟨k5, r5, h5, hs5⟩ := short05_ex s ws
  cases r5 with
  | false => exact grows_r1 A0 c0 s A1 c1 l tp vp v w hL hr0 hc0 hr1 hc1 k5 h5
  | true =>
  have hta := short_some l wl (l.length + 1) (by omega)
  cases hA : shortB l with
  | false => rw [hA] at hta; exact grows_r2 A0 c0 s A1 c1 l tp vp v w hL hr0 hc0 hr1 hc1 k5 _ h5 hta
  | true =>
  rw [hA] at hta
  have sl := (short_small hA).1
  obtain ⟨hx, hn⟩ := hs5 rfl
  have hsm : ∀ x ∈ s, smallL x.f0 := fun x hm => (short_small (hx x hm)).1
  have hok := okS_of hsm (by omega)
  cases e1 : (appendV s l tp vp).2 with
  | some d1 => exact grows_r3 A0 c0 s A1 c1 l tp vp v w hL hr0 hc0 hr1 hc1 k5 _ d1 h5 hta hok sl (pair_of' (append_fail e1) e1)
  | none =>
    obtain ⟨m, x, k, n, z, hm, hv1, hox, hml, ht, hk, hn6, hfv, hX, hN, hLS, hv2, hb4, hb5⟩ := grows_plain (v := v) hsm hn sl e1
    have hma := refMake_some l hA 5000 (by omega)
    rw [refV_eq, hm] at hma
    by_cases hb : TimP (tp + 1)
    · obtain ⟨y, hv3, hyl, hym⟩ := hb5 hb
      have hmy := many_some y hyl (by omega)
      have hms := many_some s (by omega) (by omega)
      rw [hym] at hmy
      have t2 : ¬ tp = 1125899906842624 := by unfold TimP at hb; omega
      exact grows_r5 A0 c0 s A1 c1 l tp vp v w hL hr0 hc0 hr1 hc1 k5 _ _ x m k z n (facts4 hk (by have := hox.1; omega) hn6) y (manyN s : Int) _ _ (by rw [beq_eq_false_iff_ne]; exact t2) t2 (by unfold TimP at ht; unfold wrap64; omega) (by unfold wrap64; omega) h5 hta hok sl hv1 hma hml hox hfv hX hN hLS hv2 hv3 hmy hms
    · have t2 : tp = 1125899906842624 := by unfold TimP at hb ht; omega
      subst t2
      exact grows_r4 A0 c0 s A1 c1 l vp v w hL hr0 hc0 hr1 hc1 k5 _ _ x m k z n (facts4 hk (by have := hox.1; omega) hn6) h5 hta hok sl hv1 hma hml hox hfv hX hN hLS hv2 (hb4 hb)
end Go.Proofs.YtfbockgjhbfidaaDoor.Pr
