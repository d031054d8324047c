import Derived.Test.YtlnhecplmppldaaUUpto
import Derived.Test.YtlnhecplmppldaaPtClone
import Derived.Test.YtlnhecplmppldaaPtDel
import Derived.Test.YtlnhecplmppldaaPrPickSampleStale
import Derived.Laws.EntriesVeiled
set_option linter.unusedVariables false
set_option linter.unusedSimpArgs false
namespace Go.Proofs.Ytlnhecplmppldaa.Pr
open Go.RowKit Go.Proofs.Fl Go.Proofs.YtlnhecplmppldaaW.PrintWords Go.Proofs.YtlnhecplmppldaaW.PrintLast Go.Proofs.YtlnhecplmppldaaW.PrintMore

def staleP (x : S29) : Bool := x.f1 == 9218868437227405314
def windowN (l : List S29) (t wide : Int) : List S29 := ((l.drop (uptoN l (t - wide))).take (uptoN l t - uptoN l (t - wide))).filter fun x => !staleP x
/-- Are points in their range, and do times go up, from a time before? -/
def okFrom : Option Int → List S29 → Bool
  | _, [] => true
  | p, x :: r => decide (-2305843009213693952 ≤ x.f0) && decide (x.f0 ≤ 2305843009213693952) && (match p with | none => true | some y => decide (y < x.f0)) && okFrom (some x.f0) r
theorem okFrom_cons (p : Option Int) (x : S29) (r : List S29) : okFrom p (x :: r) = (decide (-2305843009213693952 ≤ x.f0) && decide (x.f0 ≤ 2305843009213693952) && (match p with | none => true | some y => decide (y < x.f0)) && okFrom (some x.f0) r) := by cases p <;> rfl
def tOk (t wide : Int) : Bool := decide (-2305843009213693952 ≤ t) && decide (t ≤ 2305843009213693952) && decide (1 ≤ wide) && decide (wide ≤ 2305843009213693952)
def mayT (l : List S29) (t wide : Int) : Bool := okFrom none l && tOk t wide
def pick_Window.f (l0 : List S29) (a1 a2 : Int) : Option (List S29) := if l0.length ≤ 1099511627776 then some (if mayT l0 a1 a2 = true then windowN l0 a1 a2 else []) else none

theorem window1_any (g1 : Nat) (x : S29) (w : World) (h1 : w.cell? ⟨g1, 0, none⟩ = some (.func (.func 36) #[] #[])) :
    Calls Try.prog 39 #[.agg #[.int .i64 x.f0, .int .u64 x.f1], .pointer (some ⟨g1, 0, none⟩)] w fun e w' => e = .returned (.bool (staleP x)) ∧ Below w.heap.size w w' := by
  have hlt := World.block_lt_of_cell? w _ h1
  go_enter Try.func39, Try.ntmps39
  go_wp2_with (go_at_call 36; refine (pick_sample_stale.calls x.f0 x.f1 (staleP x) _ rfl).mono ?_; rintro e w' ⟨rfl, hb⟩)
  go_ret
  exact ⟨rfl, below_then (below_alloc (Below.refl _ _) _) (by simp) hb⟩

theorem rd_eq (l : List S29) (i : Nat) (h : i < l.length) : rd_T29 l (i : Int) = l[i] := by simp [rd_T29, h]
def prevOf (l : List S29) (i : Nat) : Option Int := match i with
  | 0 => none
  | j + 1 => (l[j]?).map (·.f0)
theorem prevOf_succ (l : List S29) (i : Nat) (h : i < l.length) : prevOf l (i + 1) = some (l[i]).f0 := by simp [prevOf, h]
theorem okFrom_up : ∀ (l : List S29) (p : Option Int), okFrom p l = true → upB l = true
  | [], _, _ => rfl
  | [x], _, _ => rfl
  | x :: y :: r, p, h => by
    simp only [okFrom, Bool.and_eq_true] at h
    obtain ⟨_, ⟨⟨_, h2⟩, h3⟩⟩ := h
    have h4 := okFrom_up (y :: r) (some x.f0) (by simp only [okFrom, Bool.and_eq_true]; exact ⟨⟨by assumption, h2⟩, h3⟩)
    simp only [upB, Bool.and_eq_true]
    exact ⟨h2, h4⟩
theorem tOk_ifs (t wd : Int) : (if t ≥ (-2305843009213693952) then (if t ≤ 2305843009213693952 then (if wd ≥ 1 then (some (decide (wd ≤ 2305843009213693952))) else (some false)) else (some false)) else (some false)) = some (tOk t wd) := by
  unfold tOk
  by_cases h1 : -2305843009213693952 ≤ t
  · rw [if_pos h1, decide_eq_true h1]
    by_cases h2 : t ≤ 2305843009213693952
    · rw [if_pos h2, decide_eq_true h2]
      by_cases h3 : 1 ≤ wd
      · rw [if_pos h3, decide_eq_true h3]; simp
      · rw [if_neg (by omega), decide_eq_false h3]; simp
    · rw [if_neg h2, decide_eq_false h2]; simp
  · rw [if_neg (by omega), decide_eq_false h1]; simp
theorem may_l0 (l : List S29) (t wd : Int) (hn : l.length ≤ 1099511627776) : ∀ (d i k : Nat), i + d = l.length → d < k → pick_may.l0 k l t wd l (l.length : Int) (i : Int) = some (okFrom (prevOf l i) (l.drop i) && tOk t wd) := by
  intro d
  induction d with
  | zero =>
    intro i k hi hk
    obtain ⟨k, rfl⟩ : ∃ m, k = m + 1 := ⟨k - 1, by omega⟩
    simp only [pick_may.l0]
    rw [if_neg (by omega), tOk_ifs, List.drop_eq_nil_of_le (by omega)]
    simp [okFrom]
  | succ d ih =>
    intro i k hi hk
    obtain ⟨k, rfl⟩ : ∃ m, k = m + 1 := ⟨k - 1, by omega⟩
    have hlt : i < l.length := by omega
    have hw : wrap64 ((i : Int) + 1) = ((i + 1 : Nat) : Int) := by unfold wrap64; omega
    simp only [pick_may.l0]
    rw [if_pos (by omega), if_pos (by omega), if_pos (by omega), rd_eq l i hlt, hw, ih (i + 1) k (by omega) (by omega), List.drop_eq_getElem_cons hlt, okFrom_cons, prevOf_succ l i hlt]
    by_cases h1 : (l[i]).f0 < -2305843009213693952
    · rw [if_pos h1, decide_eq_false (by omega)]; simp
    · rw [if_neg h1, decide_eq_true (by omega : -2305843009213693952 ≤ (l[i]).f0)]
      by_cases h2 : (l[i]).f0 > 2305843009213693952
      · rw [if_pos h2, decide_eq_false (by omega)]; simp
      · rw [if_neg h2, decide_eq_true (by omega : (l[i]).f0 ≤ 2305843009213693952)]
        cases i with
        | zero => rw [if_neg (by omega)]; simp [prevOf]
        | succ i =>
          have hw2 : wrap64 (((i + 1 : Nat) : Int) - 1) = (i : Int) := by unfold wrap64; omega
          rw [if_pos (by omega), hw2, if_pos (by omega), if_pos (by omega), rd_eq l i (by omega)]
          have hp : prevOf l (i + 1) = some (l[i]).f0 := prevOf_succ l i (by omega)
          rw [hp]
          by_cases h3 : (l[i]).f0 ≥ (l[i + 1]).f0
          · rw [if_pos h3]; simp only [decide_eq_false (by omega : ¬ (l[i]).f0 < (l[i + 1]).f0)]; simp
          · rw [if_neg h3]; simp only [decide_eq_true (by omega : (l[i]).f0 < (l[i + 1]).f0)]; simp
theorem may_some (l : List S29) (t wd : Int) (hn : l.length ≤ 1099511627776) : ∀ k, l.length < k → pick_may.f k l t wd = some (mayT l t wd) := by
  intro k hk
  have := may_l0 l t wd hn l.length 0 k (by omega) hk
  simpa [pick_may.f, mayT, prevOf] using this

set_option maxHeartbeats 1000000 in
theorem pick_Window.calls (A0 : Option Addr) (c0 : Nat) (l0 : List S29) (a1 a2 : Int) (r : List S29) (w : World) (hr0 : Kd.C k29 w A0 l0.length l0) (hc0 : l0.length ≤ c0) (h : pick_Window.f l0 a1 a2 = some r) :
    Calls Try.prog 17 #[.slice A0 l0.length c0, .int .i64 a1, .int .i64 a2] w fun e w' => ∃ v0_ : Value, e = .returned v0_ ∧ Kd.R k29 29 w' w.heap.size (fun _ => True) v0_ r ∧ Below w.heap.size w w' := by
  unfold pick_Window.f at h
  split at h
  · rename_i hb
    obtain rfl := Option.some.inj h
    clear h
    have hm := may_some l0 a1 a2 hb (l0.length + 1) (by omega)
    have HMAY := Aside0.mk (pick_may.calls (l0.length + 1) A0 c0 l0 a1 a2 _ w hr0 hc0 hm)
    cases hmay : mayT l0 a1 a2
    · rw [hmay] at HMAY
      have HH := Aside0.mk hmay
      clear hmay hm hr0 hc0 hb
      go_enter Try.func17, Try.ntmps17
      go_wp2_with (go_at_call 34; refine HMAY.out.mono ?_; rintro e w' ⟨rfl, hb1⟩)
      go_ret
      exact ⟨_, rfl, Kd.R_nil _ _ _ _ _, hb1⟩
    · rw [hmay] at HMAY
      have hup : upB l0 = true := okFrom_up l0 none (by unfold mayT at hmay; simp at hmay; exact hmay.1)
      have hto : -2305843009213693952 ≤ a1 ∧ a1 ≤ 2305843009213693952 ∧ 1 ≤ a2 ∧ a2 ≤ 2305843009213693952 := by
        unfold mayT tOk at hmay; simp at hmay; omega
      obtain ⟨t1, t2, t3, t4⟩ := hto
      obtain ⟨m1, hm1⟩ : ∃ m, m = uptoN l0 (a1 - a2) := ⟨_, rfl⟩
      obtain ⟨m2, hm2⟩ : ∃ m, m = uptoN l0 a1 := ⟨_, rfl⟩
      have HM1 := Aside0.mk hm1
      have HM2 := Aside0.mk hm2
      have HUP := Aside0.mk hup
      have HR0 := Aside0.mk hr0
      have HC0 := Aside0.mk hc0
      have HLB := Aside0.mk hb
      have hle : m1 ≤ m2 := by
        rw [hm1, hm2]; unfold uptoN
        rw [← List.countP_eq_length_filter, ← List.countP_eq_length_filter]
        exact List.countP_mono_left (fun x _ hx => by simp at hx ⊢; omega)
      have hle2 : m2 ≤ l0.length := by rw [hm2]; exact upto_le _ _
      have HU1 : Aside0 (pick_upto.f l0 (a1 - a2) = some (m1 : Int)) := ⟨by unfold pick_upto.f; rw [if_pos ⟨hup, hb⟩, hm1]⟩
      have HU2 : Aside0 (pick_upto.f l0 a1 = some (m2 : Int)) := ⟨by unfold pick_upto.f; rw [if_pos ⟨hup, hb⟩, hm2]⟩
      clear hmay hm hr0 hc0 hup hm1 hm2 hb
      go_enter Try.func17, Try.ntmps17
      go_wp2_with (go_at_call 34; refine HMAY.out.mono ?_; rintro e w1 ⟨rfl, hb1⟩)
      have HB1 := Aside0.mk hb1
      clear hb1
      have s1 := HB1.out.size
      have zw : IntKind.i64.wrap (a1 - a2) = a1 - a2 := IntWalk.i64_in _ (by omega)
      go_wp2_with (fail)
      refine (pick_upto.calls A0 c0 l0 _ _ _ (Kd.C_alloc (Kd.C_below HR0.out HB1.out) _) HC0.out HU1.out).mono ?_
      rintro e w2 ⟨rfl, hb2⟩
      have HD2 := Aside0.mk (show w2.cell? ⟨w1.heap.size, 0, none⟩ = some (.func (.func 36) #[] #[]) from pw_cell_below hb2 (by go_simp))
      have HB2 := Aside0.mk (below_then (below_alloc HB1.out _) (by simp; omega) hb2)
      clear hb2
      go_wp2_with (fail)
      refine (pick_upto.calls A0 c0 l0 _ _ _ (Kd.C_below HR0.out HB2.out) HC0.out HU2.out).mono ?_
      rintro e w3 ⟨rfl, hb3⟩
      have HD3 := Aside0.mk (pw_cell_below hb3 HD2.out)
      have HB3 := Aside0.mk (below_then HB2.out HB2.out.size hb3)
      clear hb3
      obtain ⟨i1, hi1, _, hs1, _⟩ := info_parts info29
      have hcut := cut_mid (P := Try.prog) 22 29 .i64 .i64 Try.underlying22 hi1 2 hs1 A0 l0.length c0 (m1 : Int) (m2 : Int) (by omega) (by omega) (by omega) HC0.out
      simp only [Int.toNat_natCast] at hcut
      obtain ⟨A1, hA1⟩ : ∃ A, A = (if c0 = m1 then A0 else A0.map (·.add (m1 * 2))) := ⟨_, rfl⟩
      obtain ⟨part, hpart⟩ : ∃ p, p = (l0.drop m1).take (m2 - m1) := ⟨_, rfl⟩
      have hplen : part.length = m2 - m1 := by rw [hpart, List.length_take, List.length_drop]; omega
      have hC1 : Kd.C k29 w3 A1 part.length part := by
        rw [hA1, hpart]
        exact Kd.C_take (Kd.C_drop (Kd.C_below HR0.out HB3.out) (by omega) HC0.out) (by rw [List.length_drop]; omega)
      have hc1 : part.length ≤ c0 - m1 := by have := HC0.out; omega
      have hpb : part.length * 16 ≤ 140737488355328 := by have := HLB.out; omega
      rw [← hA1, ← hplen] at hcut
      have HC1 := Aside0.mk hC1
      have HCC := Aside0.mk hc1
      have HPB := Aside0.mk hpb
      have HPART := Aside0.mk hpart
      clear hi1 hs1 hA1 hpart hplen hC1 hc1 hpb
      go_wp2_with (fail)
      refine (clone_Pt A1 (c0 - m1) part w3 HC1.out HCC.out HPB.out).mono ?_
      rintro e w4 ⟨v4, rfl, ho4, hb4⟩
      have HO4 := Aside0.mk ho4
      have HB4 := Aside0.mk hb4
      clear ho4 hb4
      go_wp2_with (fail)
      refine (deleteFunc_Pt staleP 39 #[.pointer (some ⟨w1.heap.size, 0, none⟩)] w3.heap.size w3 w4 HB4.out HB4.out.size v4 part HO4.out (by have := HPB.out; omega) (Go.Proofs.enters_of Try.func39 (by kernel_rfl) rfl) (fun x w5 hb5 => window1_any w1.heap.size x w5 (pw_cell_below hb5 HD3.out))).mono ?_
      rintro e w6 ⟨v6, rfl, ho6, hb6⟩
      have HO6 := Aside0.mk ho6
      have HB6 := Aside0.mk hb6
      clear ho6 hb6
      go_wp2_with (fail)
      go_ret
      refine ⟨v6, rfl, ?_, below_then HB3.out HB3.out.size HB6.out⟩
      have h := Kd.R_lower HO6.out HB3.out.size
      unfold windowN
      rw [← HM1.out, ← HM2.out, ← HPART.out]
      exact h
  · cases h

end Go.Proofs.Ytlnhecplmppldaa.Pr
