/- Texts of this session, cut down to what one claim needs and joined: StPlain. -/
import Derived.Test.YtfbockgjhbfidaaGreatDoorQGFk
import Derived.Test.YtfbockgjhbfidaaGreatDoorQLbPureC
import Derived.Test.YtfbockgjhbfidaaGreatDoorQGDel
import Derived.Test.YtfbockgjhbfidaaGreatDoorQPrStoreRight
import Derived.Test.YtfbockgjhbfidaaGreatDoorQPrStoreSearchReached
set_option linter.unusedVariables false
set_option linter.unusedSimpArgs false
namespace Go.Proofs.YtfbockgjhbfidaaGreatDoor.Pr
open Go.RowKit Go.Proofs.Fl Go.Proofs.YtfbockgjhbfidaaGreatDoorW.PrintWords

def TimP (t : Int) : Prop := -1125899906842624 ≤ t ∧ t ≤ 1125899906842624
instance (t : Int) : Decidable (TimP t) := by unfold TimP; infer_instance
theorem timely_some (t : Int) : store_timely.f t = some (decide (TimP t)) := by
 unfold store_timely.f
 by_cases h : t ≥ -1125899906842624
 ·rw [if_pos h]
  congr 1
  by_cases h2 : t ≤ 1125899906842624
  ·rw [decide_eq_true h2, decide_eq_true ⟨h, h2⟩]
  ·rw [decide_eq_false h2, decide_eq_false (fun h3 => h2 h3.2)]
 ·rw [if_neg h, decide_eq_false (fun h3 => h h3.1)]
def OnePt (p : S26) : Prop := TimP p.f0 ∧ normI p.f1 = p.f1
instance (p : S26) : Decidable (OnePt p) := by unfold OnePt; infer_instance
def Up (l : List S26) : Prop := l.Pairwise fun p q => p.f0 < q.f0
instance (l : List S26) : Decidable (Up l) := by unfold Up; infer_instance
def PtsP (l : List S26) : Prop := 0 < l.length ∧ (∀ p ∈ l, OnePt p) ∧ Up l
instance (l : List S26) : Decidable (PtsP l) := by unfold PtsP; infer_instance
/-- A row's order goes on, if the last two are in order. -/
theorem pair_step {α : Type} (R : α → α → Prop) (tr : ∀ x y z, R x y → R y z → R x z) (l : List α) (i : Nat) (hi : i < l.length) (h : (l.take i).Pairwise R) (hl : ∀ j, i = j + 1 → ∀ hj : j < l.length, R l[j] l[i]) : (l.take (i + 1)).Pairwise R := by
 rw [List.take_succ_eq_append_getElem hi, List.pairwise_append]
 refine ⟨h, List.pairwise_singleton _ _, fun y hy z hz => ?_⟩
 obtain rfl := List.mem_singleton.1 hz
 obtain ⟨j, hj, rfl⟩ := List.mem_take_iff_getElem.1 hy
 have hji : j < i := by omega
 obtain ⟨q, rfl⟩ : ∃ q, i = q + 1 := ⟨i - 1, by omega⟩
 have hq : q < l.length := by omega
 have hlast := hl q rfl hq
 by_cases e : j = q
 ·subst e; exact hlast
 ·have h1 := List.pairwise_iff_getElem.1 h j q (by rw [List.length_take]; omega) (by rw [List.length_take]; omega) (by omega)
  rw [List.getElem_take, List.getElem_take] at h1
  exact tr _ _ _ h1 hlast
theorem mem_step {α : Type} {P : α → Prop} (l : List α) (i : Nat) (hi : i < l.length) (h : ∀ x ∈ l.take i, P x) (hl : P l[i]) : ∀ x ∈ l.take (i + 1), P x := by
 rw [List.take_succ_eq_append_getElem hi]
 intro x hx
 rcases List.mem_append.1 hx with hx | hx
 ·exact h x hx
 ·obtain rfl := List.mem_singleton.1 hx
  exact hl
theorem rdP_at (l : List S26) (i : Nat) (h : i < l.length) : rd_T26 l (i : Int) = l[i] := by simp [rd_T26, h]
theorem rdX_at (l : List S47) (i : Nat) (h : i < l.length) : rd_T47 l (i : Int) = l[i] := by simp [rd_T47, h]
theorem points_l0 (l : List S26) (hb : l.length ≤ 9223372036854775807) : ∀ (d i k : Nat), i + d = l.length → d < k → (∀ p ∈ l.take i, OnePt p) → Up (l.take i) → store_points.l0 k l l (l.length : Int) (i : Int) = some (decide (PtsP l))
 | 0, i, k, hi, hk, hm, hu => by
  obtain ⟨k, rfl⟩ : ∃ m, k = m + 1 := ⟨k - 1, by omega⟩
  rw [List.take_of_length_le (by omega)] at hm hu
  rw [store_points.l0, if_neg (by omega)]
  congr 1
  by_cases h : 0 < l.length
  ·rw [decide_eq_true (by omega : (l.length : Int) > 0), decide_eq_true ⟨h, hm, hu⟩]
  ·rw [decide_eq_false (by omega : ¬ (l.length : Int) > 0), decide_eq_false (fun h2 => h h2.1)]
 | d + 1, i, k, hi, hk, hm, hu => by
  obtain ⟨k, rfl⟩ : ∃ m, k = m + 1 := ⟨k - 1, by omega⟩
  have hlt : i < l.length := by omega
  have hw : wrap64 ((i : Int) + 1) = ((i + 1 : Nat) : Int) := by unfold wrap64; omega
  rw [store_points.l0, if_pos (by omega), if_pos (by omega), if_pos (by omega), rdP_at l i hlt, timely_some, Option.bind_some]
  by_cases h1 : TimP (l[i]).f0
  ·rw [decide_eq_true h1, if_pos rfl]
   show (some (normI (l[i]).f1)).bind _ = _
   rw [Option.bind_some]
   by_cases h2 : normI (l[i]).f1 = (l[i]).f1
   ·rw [if_pos h2]
    have hm2 := mem_step l i hlt hm (P := OnePt) ⟨h1, h2⟩
    by_cases h0 : i = 0
    ·rw [if_neg (by omega), hw]
     exact points_l0 l hb d (i + 1) k (by omega) (by omega) hm2 (pair_step (fun p q : S26 => p.f0 < q.f0) (fun x y z h h' => Int.lt_trans h h') l i hlt hu (fun j e => by omega))
    ·obtain ⟨q, rfl⟩ : ∃ q, i = q + 1 := ⟨i - 1, by omega⟩
     have hq : q < l.length := by omega
     have hw2 : wrap64 (((q + 1 : Nat) : Int) - 1) = (q : Int) := by unfold wrap64; omega
     rw [if_pos (by omega), hw2, if_pos (by omega), if_pos (by omega), rdP_at l q hq]
     by_cases h3 : (l[q]).f0 ≥ (l[q + 1]).f0
     ·rw [if_pos h3, decide_eq_false]
      rintro ⟨_, _, h4⟩
      have := List.pairwise_iff_getElem.1 h4 q (q + 1) hq hlt (by omega)
      omega
     ·rw [if_neg h3, hw]
      exact points_l0 l hb d (q + 1 + 1) k (by omega) (by omega) hm2 (pair_step (fun p q : S26 => p.f0 < q.f0) (fun x y z h h' => Int.lt_trans h h') l (q + 1) hlt hu (fun j e hj => by
       obtain rfl : q = j := by omega
       omega))
   ·rw [if_neg h2, decide_eq_false]
    rintro ⟨_, h4, _⟩
    exact h2 (h4 l[i] (List.getElem_mem hlt)).2
  ·rw [decide_eq_false h1, if_neg (by decide), decide_eq_false]
   rintro ⟨_, h4, _⟩
   exact h1 (h4 l[i] (List.getElem_mem hlt)).1
theorem points_some (l : List S26) (hb : l.length ≤ 9223372036854775807) (k : Nat) (hk : l.length < k) : store_points.f k l = some (decide (PtsP l)) := points_l0 l hb l.length 0 k (by omega) hk (fun _ h => by cases h) List.Pairwise.nil

/-! ### A store -/
def OneSer (x : S47) : Prop := 0 < x.f0.length ∧ rightB x.f0 = true ∧ PtsP x.f1
instance (x : S47) : Decidable (OneSer x) := by unfold OneSer; infer_instance
def AscS (l : List S47) : Prop := l.Pairwise fun x y => cmpLs x.f0 y.f0 < 0
instance (l : List S47) : Decidable (AscS l) := by unfold AscS; infer_instance
def RightP (l : List S47) : Prop := (∀ x ∈ l, OneSer x) ∧ AscS l
instance (l : List S47) : Decidable (RightP l) := by unfold RightP; infer_instance
def okS (l : List S47) : Prop := l.length ≤ 1000000 ∧ ∀ x ∈ l, smallL x.f0 ∧ x.f1.length ≤ 1000000
theorem cmpLs_lt_trans {a b c : List S44} (h : cmpLs a b < 0) (h2 : cmpLs b c ≤ 0) : cmpLs a c < 0 := by
 rcases Int.lt_or_le (cmpLs a c) 0 with h3 | h3
 ·exact h3
 ·have h4 : cmpLs c a ≤ 0 := by rw [cmpLs_neg]; omega
  have h5 := cmpLs_trans _ _ _ h2 h4
  rw [cmpLs_neg] at h5
  omega
theorem right_l0 (l : List S47) (ho : okS l) : ∀ (d i k : Nat), i + d = l.length → 1000001 + d < k → (∀ x ∈ l.take i, OneSer x) → AscS (l.take i) → store_Right.l0 k l l (l.length : Int) (i : Int) = some (decide (RightP l))
 | 0, i, k, hi, hk, hm, hu => by
  obtain ⟨k, rfl⟩ : ∃ m, k = m + 1 := ⟨k - 1, by omega⟩
  rw [List.take_of_length_le (by omega)] at hm hu
  rw [store_Right.l0, if_neg (by omega), decide_eq_true ⟨hm, hu⟩]
 | d + 1, i, k, hi, hk, hm, hu => by
  obtain ⟨k, rfl⟩ : ∃ m, k = m + 1 := ⟨k - 1, by omega⟩
  have hlt : i < l.length := by omega
  have hl6 := ho.1
  have hx := ho.2 l[i] (List.getElem_mem hlt)
  have hw : wrap64 ((i : Int) + 1) = ((i + 1 : Nat) : Int) := by unfold wrap64; omega
  have hr : label_Right.f (l[i]).f0 = some (rightB (l[i]).f0) := right_some hx.1
  rw [store_Right.l0, if_pos (by omega), if_pos (by omega), if_pos (by omega), rdX_at l i hlt]
  have hno : ¬ OneSer l[i] → decide (RightP l) = false := fun h => decide_eq_false (fun h2 => h (h2.1 l[i] (List.getElem_mem hlt)))
  by_cases h0 : ((l[i]).f0.length : Int) = 0
  ·rw [if_pos h0, hno (fun h => by have := h.1; omega)]
  ·rw [if_neg h0, hr, Option.bind_some]
   cases h1 : rightB (l[i]).f0 with
   | false =>
    rw [if_neg (by decide), hno (fun h => by have := h.2.1; rw [h1] at this; cases this)]
   | true =>
    rw [if_pos rfl, points_some _ (by omega) k (by omega), Option.bind_some]
    by_cases h2 : PtsP (l[i]).f1
    ·rw [decide_eq_true h2, if_pos rfl]
     have hm2 := mem_step l i hlt hm (P := OneSer) ⟨by omega, h1, h2⟩
     by_cases hz : i = 0
     ·rw [if_neg (by omega), hw]
      exact right_l0 l ho d (i + 1) k (by omega) (by omega) hm2 (pair_step (fun x y : S47 => cmpLs x.f0 y.f0 < 0) (fun x y z h h' => cmpLs_lt_trans h (Int.le_of_lt h')) l i hlt hu (fun j e => by omega))
     ·obtain ⟨q, rfl⟩ : ∃ q, i = q + 1 := ⟨i - 1, by omega⟩
      have hq : q < l.length := by omega
      have hxq := (ho.2 l[q] (List.getElem_mem hq)).1.1
      have hxi := hx.1.1
      have hw2 : wrap64 (((q + 1 : Nat) : Int) - 1) = (q : Int) := by unfold wrap64; omega
      rw [if_pos (by omega), hw2, if_pos (by omega), if_pos (by omega), rdX_at l q hq, labCmp_some _ _ (by omega) (by omega), Option.bind_some]
      by_cases h3 : cmpLs (l[q]).f0 (l[q + 1]).f0 ≥ 0
      ·rw [if_pos h3, decide_eq_false]
       rintro ⟨_, h4⟩
       have := List.pairwise_iff_getElem.1 h4 q (q + 1) hq hlt (by omega)
       omega
      ·rw [if_neg h3, hw]
       exact right_l0 l ho d (q + 1 + 1) k (by omega) (by omega) hm2 (pair_step (fun x y : S47 => cmpLs x.f0 y.f0 < 0) (fun x y z h h' => cmpLs_lt_trans h (Int.le_of_lt h')) l (q + 1) hlt hu (fun j e hj => by
        obtain rfl : q = j := by omega
        omega))
    ·rw [decide_eq_false h2, if_neg (by decide), hno (fun h => h2 h.2.2)]
theorem rightS_some (l : List S47) (ho : okS l) : store_Right.f (l.length + 1000003) l = some (decide (RightP l)) := right_l0 l ho l.length 0 _ (by omega) (by omega) (fun _ h => by cases h) List.Pairwise.nil

/-! ### Where labels stand -/
def eqP (l : List S44) (x : S47) : Bool := cmpLs x.f0 l == 0
/-- How many series at the head are less. -/
def lessN (s : List S47) (l : List S44) : Nat := (s.takeWhile fun x => decide (cmpLs x.f0 l < 0)).length
def findV (s : List S47) (l : List S44) : Int × Bool := match firstFrom (eqP l) s 0 with
 | some i => ((i : Nat), true)
 | none => ((lessN s l : Nat), false)
theorem tw_le {α : Type} (p : α → Bool) : ∀ l : List α, (l.takeWhile p).length ≤ l.length
 | [] => Nat.le_refl _
 | x :: r => by
  rw [List.takeWhile_cons]
  split
  ·have := tw_le p r
   simp only [List.length_cons]; omega
  ·exact Nat.zero_le _
theorem tw_lt {α : Type} (p : α → Bool) : ∀ (l : List α) (i : Nat) (h : i < l.length), i < (l.takeWhile p).length → p l[i] = true
 | [], i, h, _ => absurd h (Nat.not_lt_zero _)
 | x :: r, i, h, h2 => by
  rw [List.takeWhile_cons] at h2
  cases hx : p x with
  | false => rw [hx, if_neg (by decide)] at h2; exact absurd h2 (Nat.not_lt_zero _)
  | true =>
   rw [hx, if_pos rfl] at h2
   cases i with
   | zero => exact hx
   | succ i => exact tw_lt p r i (by simpa using h) (by simpa using h2)
theorem tw_at {α : Type} (p : α → Bool) : ∀ (l : List α) (h : (l.takeWhile p).length < l.length), p (l[(l.takeWhile p).length]) = false
 | [], h => absurd h (Nat.not_lt_zero _)
 | x :: r, h => by
  cases hx : p x with
  | false =>
   have e : (List.takeWhile p (x :: r)).length = 0 := by rw [List.takeWhile_cons, hx, if_neg (by decide)]; rfl
   simp only [e, List.getElem_cons_zero]
   exact hx
  | true =>
   have e : (List.takeWhile p (x :: r)).length = (List.takeWhile p r).length + 1 := by rw [List.takeWhile_cons, hx, if_pos rfl]; rfl
   simp only [e, List.getElem_cons_succ]
   exact tw_at p r (by rw [e] at h; simpa using h)
theorem less_le (s : List S47) (l : List S44) : lessN s l ≤ s.length := tw_le _ s
/-- In a row in order just the series from there on are not less. -/
theorem reached_iff (s : List S47) (l : List S44) (ha : AscS s) (i : Nat) (hi : i < s.length) : decide (cmpLs (s[i]).f0 l ≥ 0) = decide (lessN s l ≤ i) := by
 by_cases h : lessN s l ≤ i
 ·rw [decide_eq_true h]
  apply decide_eq_true
  have h0 : (s.takeWhile fun x => decide (cmpLs x.f0 l < 0)).length < s.length := Nat.lt_of_le_of_lt h hi
  have h1 := of_decide_eq_false (tw_at (fun x => decide (cmpLs x.f0 l < 0)) s h0)
  change ¬ cmpLs (s[lessN s l]'h0).f0 l < 0 at h1
  by_cases e : lessN s l = i
  ·subst e; omega
  ·have h2 := List.pairwise_iff_getElem.1 ha (lessN s l) i h0 hi (by omega)
   have h3 : cmpLs l (s[lessN s l]'h0).f0 ≤ 0 := by rw [cmpLs_neg]; omega
   have h4 := cmpLs_trans _ _ _ h3 (Int.le_of_lt h2)
   rw [cmpLs_neg] at h4
   omega
 ·rw [decide_eq_false h]
  apply decide_eq_false
  have h1 := of_decide_eq_true (tw_lt (fun x => decide (cmpLs x.f0 l < 0)) s i hi (by unfold lessN at h; omega))
  omega
end Go.Proofs.YtfbockgjhbfidaaGreatDoor.Pr
