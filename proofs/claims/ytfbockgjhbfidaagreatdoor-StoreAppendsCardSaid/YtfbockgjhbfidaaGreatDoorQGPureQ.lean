/- Texts of this session, cut down to what one claim needs and joined: LbPureR, LbPureQ. -/
import Derived.Test.YtfbockgjhbfidaaGreatDoorQGPure
import Derived.Test.YtfbockgjhbfidaaGreatDoorQPrSoundingsref01Make
import Derived.Test.YtfbockgjhbfidaaGreatDoorQLbText
section
set_option linter.unusedVariables false
set_option linter.unusedSimpArgs false
namespace Go.Proofs.YtfbockgjhbfidaaGreatDoor.Pr
open Go.RowKit Go.Proofs.YtfbockgjhbfidaaGreatDoorW.PrintWords

theorem put_in (s out : List S44) (i : Nat) (hi : i < s.length) (hs : s.length ≤ 1000) (ho : out.length ≤ 1000) : ∀ (j k : Nat), j ≤ out.length →
  ∃ p, p ≤ j ∧ (∀ q, p = q + 1 → ∀ h : q < out.length, ¬ cmpB (s[i]).f0 (out[q]).f0 < 0) ∧ (∀ t, p ≤ t → t < j → ∀ h : t < out.length, cmpB (s[i]).f0 (out[t]).f0 < 0) ∧
   soundingsref01_Make.l2 (k + j + 1) s out (i : Int) (j : Int) = soundingsref01_Make.l0 (k + p) s (out.take p ++ [s[i]] ++ out.drop p) ((i + 1 : Nat) : Int)
 | 0, k, hj => by
  have hw : wrap64 ((i : Int) + 1) = ((i + 1 : Nat) : Int) := by unfold wrap64; omega
  refine ⟨0, Nat.le_refl _, fun q h => by omega, fun t h1 h2 => by omega, ?_⟩
  rw [soundingsref01_Make.l2, if_neg (by omega), if_pos (by omega), if_pos (by omega)]
  simp only [Option.bind_some, Int.toNat_natCast, rd_at s i hi, hw]
  rw [if_pos (by simp), if_pos (by omega), if_pos (by omega), if_pos (by simp), if_pos (by simp; omega)]
  rfl
 | j + 1, k, hj => by
  have hw : wrap64 ((i : Int) + 1) = ((i + 1 : Nat) : Int) := by unfold wrap64; omega
  have hw2 : wrap64 (((j + 1 : Nat) : Int) - 1) = (j : Int) := by unfold wrap64; omega
  have hjl : j < out.length := by omega
  rw [soundingsref01_Make.l2, if_pos (by omega), hw2, if_pos (by omega), if_pos (by omega), if_pos (by omega), if_pos (by omega), rd_at s i hi, rd_at out j hjl, cmpB_less]
  by_cases h : cmpB (s[i]).f0 (out[j]).f0 < 0
  ·rw [if_pos (decide_eq_true h)]
   obtain ⟨p, h1, h2, h3, h4⟩ := put_in s out i hi hs ho j k (by omega)
   refine ⟨p, by omega, h2, fun t a b c => ?_, ?_⟩
   ·by_cases e : t = j
    ·subst e; exact h
    ·exact h3 t a (by omega) c
   ·rw [← h4]; rfl
  ·rw [if_neg (by simp [h]), if_pos (by omega), if_pos (by omega)]
   refine ⟨j + 1, Nat.le_refl _, fun q e hq => ?_, fun t a b => by omega, ?_⟩
   ·obtain rfl : q = j := by omega
    exact h
   ·simp only [Option.bind_some, Int.toNat_natCast, hw]
    rw [if_pos (by simp; omega), if_pos (by simp; omega), if_pos (by simp; omega)]
    rfl
/-- Is there an earlier one of that name, from a place on? -/
def likeL (s : List S44) (i t : Nat) (n : ByteArray) : Bool := ((s.take i).drop t).any fun y => decide (y.f0.toList = n.toList)
theorem look_l1 (s out : List S44) (i : Nat) (hi : i < s.length) (hs : s.length ≤ 1000) : ∀ (d t k : Nat), t + d = i →
  soundingsref01_Make.l1 (k + d + 1) s out (i : Int) (t : Int) = if likeL s i t (s[i]).f0 = true then some ([], false) else if (s[i]).f1.toList = [] then soundingsref01_Make.l0 k s out ((i + 1 : Nat) : Int) else soundingsref01_Make.l2 k s out (i : Int) (out.length : Int)
 | 0, t, k, h => by
  have hw : wrap64 ((i : Int) + 1) = ((i + 1 : Nat) : Int) := by unfold wrap64; omega
  have hl : likeL s i t (s[i]).f0 = false := by unfold likeL; rw [List.drop_eq_nil_of_le (by rw [List.length_take]; omega)]; rfl
  rw [soundingsref01_Make.l1, if_neg (by omega), if_pos (by omega), if_pos (by omega), rd_at s i hi, hw, hl, if_neg (show ¬ (false = true) by decide)]
 | d + 1, t, k, h => by
  have hw : wrap64 ((t : Int) + 1) = ((t + 1 : Nat) : Int) := by unfold wrap64; omega
  have ht : t < s.length := by omega
  have hd : (s.take i).drop t = s[t] :: (s.take i).drop (t + 1) := by
   rw [List.drop_eq_getElem_cons (by rw [List.length_take]; omega), List.getElem_take]
  have hl : likeL s i t (s[i]).f0 = (decide ((s[t]).f0.toList = (s[i]).f0.toList) || likeL s i (t + 1) (s[i]).f0) := by unfold likeL; rw [hd, List.any_cons]
  rw [soundingsref01_Make.l1, if_pos (by omega), if_pos (by omega), if_pos (by omega), if_pos (by omega), if_pos (by omega), rd_at s i hi, rd_at s t ht, hw, hl]
  by_cases e : (s[t]).f0.toList = (s[i]).f0.toList
  ·rw [if_pos e, decide_eq_true e]; rfl
  ·rw [if_neg e, decide_eq_false e, Bool.false_or]
   have := look_l1 s out i hi hs d (t + 1) k (by omega)
   rw [← this]
   rfl
end Go.Proofs.YtfbockgjhbfidaaGreatDoor.Pr
end

section
set_option linter.unusedVariables false
set_option linter.unusedSimpArgs false
namespace Go.Proofs.YtfbockgjhbfidaaGreatDoor.Pr
open Go.RowKit Go.Proofs.YtfbockgjhbfidaaGreatDoorW.PrintWords

def Unlike (l : List S44) : Prop := l.Pairwise fun x y => x.f0 ≠ y.f0
instance (l : List S44) : Decidable (Unlike l) := by unfold Unlike; infer_instance
theorem asc_unlike (l : List S44) (hs : Sorted l) : Asc l ↔ Unlike l := by
 unfold Asc Unlike
 constructor
 ·intro h
  refine h.imp ?_
  intro x y h1 h2
  rw [(cmpB_zero _ _).2 h2] at h1
  omega
 ·intro h
  unfold Sorted at hs
  refine (hs.and h).imp ?_
  rintro x y ⟨h1, h2⟩
  have h3 := name_le h1
  have h4 : ¬ cmpB x.f0 y.f0 = 0 := fun h5 => h2 ((cmpB_zero _ _).1 h5)
  omega
theorem unlike_perm {a b : List S44} (h : a.Perm b) : Unlike a ↔ Unlike b := h.pairwise_iff (fun h => Ne.symm h)
def refV (l : List S44) : List S44 × Bool := if (∀ x ∈ l, mayB x = true) ∧ Unlike l ∧ (fullL l).length ≤ 16 then (fullL (sortL l), true) else ([], false)
theorem refV_iff (l : List S44) : ((∀ x ∈ sortL l, mayB x = true) ∧ Asc (sortL l) ∧ (fullL (sortL l)).length ≤ 16) ↔ ((∀ x ∈ l, mayB x = true) ∧ Unlike l ∧ (fullL l).length ≤ 16) := by
 rw [asc_unlike _ (sortL_sorted l), unlike_perm (sortL_perm l), (full_perm (sortL_perm l)).length_eq]
 have e : (∀ x ∈ sortL l, mayB x = true) ↔ (∀ x ∈ l, mayB x = true) := ⟨fun h x hx => h x ((sortL_perm l).mem_iff.2 hx), fun h x hx => h x ((sortL_perm l).mem_iff.1 hx)⟩
 rw [e]
theorem refV_eq (l : List S44) : refV l = ((makeV (sortL l)).1, (makeV (sortL l)).2.isNone) := by
 rw [makeV_eq _ (sortL_sorted l)]
 unfold refV
 by_cases h : (∀ x ∈ l, mayB x = true) ∧ Unlike l ∧ (fullL l).length ≤ 16
 ·rw [if_pos h, if_pos ((refV_iff l).2 h)]; rfl
 ·rw [if_neg h, if_neg (fun h2 => h ((refV_iff l).1 h2))]; rfl
theorem put_sorted (out : List S44) (x : S44) (p : Nat) (hs : Sorted out) (h1 : ∀ q, p = q + 1 → ∀ h : q < out.length, ¬ cmpB x.f0 (out[q]).f0 < 0) (h2 : ∀ t, p ≤ t → ∀ h : t < out.length, cmpB x.f0 (out[t]).f0 < 0) (hp : p ≤ out.length) (hu : ∀ y ∈ out, y.f0 ≠ x.f0) : Sorted (out.take p ++ [x] ++ out.drop p) := by
 have hlo : ∀ y ∈ out.take p, cmpL y x ≤ 0 := by
  intro y hy
  obtain ⟨j, hj, rfl⟩ := List.mem_take_iff_getElem.1 hy
  have hj1 : j < p := by omega
  have hj2 : j < out.length := by omega
  obtain ⟨q, rfl⟩ : ∃ q, p = q + 1 := ⟨p - 1, by omega⟩
  have hq : q < out.length := by omega
  have a := h1 q rfl hq
  have b : cmpB (out[j]).f0 (out[q]).f0 ≤ 0 := by
   by_cases e : j = q
   ·subst e; rw [(cmpB_zero _ _).2 rfl]; omega
   ·unfold Sorted at hs
    exact name_le (List.pairwise_iff_getElem.1 hs j q hj2 hq (by omega))
  have c : cmpB (out[q]).f0 x.f0 ≤ 0 := by rw [cmpB_neg]; omega
  have d := cmpB_trans b c
  have n : ¬ cmpB (out[j]).f0 x.f0 = 0 := fun h => hu _ (List.getElem_mem hj2) ((cmpB_zero _ _).1 h)
  unfold cmpL
  rw [if_neg n]
  exact d
 have hhi : ∀ z ∈ out.drop p, cmpL x z ≤ 0 := by
  intro z hz
  obtain ⟨j, hj, rfl⟩ := List.mem_drop_iff_getElem.1 hz
  have a := h2 (p + j) (by omega) (by omega)
  unfold cmpL
  rw [if_neg (by omega)]
  omega
 have hs2 : Sorted (out.take p ++ out.drop p) := by rw [List.take_append_drop]; exact hs
 unfold Sorted at hs2 ⊢
 rw [List.pairwise_append] at hs2
 rw [List.pairwise_append, List.pairwise_append]
 refine ⟨⟨hs2.1, List.pairwise_singleton _ _, fun y hy z hz => ?_⟩, hs2.2.1, fun y hy z hz => ?_⟩
 ·obtain rfl := List.mem_singleton.1 hz
  exact hlo y hy
 ·rcases List.mem_append.1 hy with hy | hy
  ·exact hs2.2.2 y hy z hz
  ·obtain rfl := List.mem_singleton.1 hy
   exact hhi z hz
theorem put_full (s : List S44) (i : Nat) (hi : i < s.length) (p : Nat) (hv : ¬ (s[i]).f1.toList = []) (hp : p ≤ (fullL (sortL (s.take i))).length)
  (h1 : ∀ q, p = q + 1 → ∀ h : q < (fullL (sortL (s.take i))).length, ¬ cmpB (s[i]).f0 ((fullL (sortL (s.take i)))[q]).f0 < 0)
  (h2 : ∀ t, p ≤ t → ∀ h : t < (fullL (sortL (s.take i))).length, cmpB (s[i]).f0 ((fullL (sortL (s.take i)))[t]).f0 < 0)
  (hu : ∀ y ∈ s.take i, y.f0 ≠ (s[i]).f0) : (fullL (sortL (s.take i))).take p ++ [s[i]] ++ (fullL (sortL (s.take i))).drop p = fullL (sortL (s.take (i + 1))) := by
 have hpm := full_perm (sortL_perm (s.take i))
 refine sorted_unique (put_sorted _ _ p (full_sorted (sortL_sorted _)) h1 h2 hp (fun y hy => hu y ?_)) (full_sorted (sortL_sorted _)) ?_
 ·have := hpm.mem_iff.1 hy
  unfold fullL at this
  exact (List.mem_filter.1 this).1
 ·refine List.Perm.trans ?_ (full_perm (sortL_perm (s.take (i + 1)))).symm
  have e : fullL (s.take (i + 1)) = fullL (s.take i) ++ [s[i]] := by
   rw [List.take_succ_eq_append_getElem hi]
   unfold fullL
   rw [List.filter_append, List.filter_cons, if_pos (by simpa using hv), List.filter_nil]
  rw [e]
  rw [List.append_assoc]
  refine List.Perm.trans (List.perm_middle) ?_
  change (s[i] :: ((fullL (sortL (s.take i))).take p ++ (fullL (sortL (s.take i))).drop p)).Perm _
  rw [List.take_append_drop]
  exact (hpm.cons _).trans (List.perm_append_singleton _ _).symm
theorem skip_full (s : List S44) (i : Nat) (hi : i < s.length) (hv : (s[i]).f1.toList = []) : fullL (sortL (s.take i)) = fullL (sortL (s.take (i + 1))) := by
 refine sorted_unique (full_sorted (sortL_sorted _)) (full_sorted (sortL_sorted _)) ?_
 refine (full_perm (sortL_perm _)).trans (List.Perm.trans ?_ (full_perm (sortL_perm (s.take (i + 1)))).symm)
 rw [List.take_succ_eq_append_getElem hi]
 unfold fullL
 rw [List.filter_append, List.filter_cons, if_neg (by simpa using hv), List.filter_nil, List.append_nil]
theorem like_iff (s : List S44) (i : Nat) (n : ByteArray) : likeL s i 0 n = true ↔ ∃ y ∈ s.take i, y.f0 = n := by
 unfold likeL
 rw [List.drop_zero, List.any_eq_true]
 constructor
 ·rintro ⟨y, hy, h⟩
  refine ⟨y, hy, ?_⟩
  have h2 := of_decide_eq_true h
  rw [Lib.toList_data, Lib.toList_data] at h2
  exact ByteArray.ext (Array.toList_inj.mp h2)
 ·rintro ⟨y, hy, h⟩
  exact ⟨y, hy, decide_eq_true (by rw [h])⟩
theorem not_like (s : List S44) (i : Nat) (hi : i < s.length) (h : ∃ y ∈ s.take i, y.f0 = (s[i]).f0) : ¬ Unlike s := by
 intro hu
 obtain ⟨y, hy, he⟩ := h
 obtain ⟨j, hj, rfl⟩ := List.mem_take_iff_getElem.1 hy
 unfold Unlike at hu
 exact List.pairwise_iff_getElem.1 hu j i (by omega) hi (by omega) he
theorem unlike_take (s : List S44) (i : Nat) (hi : i < s.length) (h : Unlike (s.take i)) (hn : ∀ y ∈ s.take i, y.f0 ≠ (s[i]).f0) : Unlike (s.take (i + 1)) := by
 rw [List.take_succ_eq_append_getElem hi]
 unfold Unlike at h ⊢
 rw [List.pairwise_append]
 refine ⟨h, List.pairwise_singleton _ _, fun y hy z hz => ?_⟩
 obtain rfl := List.mem_singleton.1 hz
 exact hn y hy
theorem bs_own (s : ByteArray) : bs s.data.toList = s := by unfold bs; simp
theorem refN (s : ByteArray) (hs : s.size ≤ 400) (k : Nat) (hk : 500 ≤ k) : soundingsref01_IsName.f k s = some (nameB s.data.toList) := by
 have h0 : s.data.toList.length = s.size := by rw [Array.length_toList]; rfl
 have h := refName_some s.data.toList (by omega) k (by omega)
 rw [bs_own] at h
 exact h
theorem refVal (s : ByteArray) (hs : s.size ≤ 400) (k : Nat) (hk : 500 ≤ k) : soundingsref01_IsValue.f k s = some (valueB s) := by
 have h0 : s.data.toList.length = s.size := by rw [Array.length_toList]; rfl
 have h := isValue_some s.data.toList (by omega) k (by omega)
 rw [bs_own] at h
 exact h
theorem ref_l0 (s : List S44) (hs : s.length ≤ 40) (hx : ∀ x ∈ s, x.f0.size ≤ 400 ∧ x.f1.size ≤ 400) : ∀ (d i k : Nat), i + d = s.length → 1000 + 100 * d ≤ k → (∀ x ∈ s.take i, mayB x = true) → Unlike (s.take i) →
  soundingsref01_Make.l0 k s (fullL (sortL (s.take i))) (i : Int) = some (refV s)
 | 0, i, k, hi, hk, hm, hu => by
  obtain ⟨k, rfl⟩ : ∃ m, k = m + 1 := ⟨k - 1, by omega⟩
  have e : s.take i = s := List.take_of_length_le (by omega)
  rw [e] at hm hu ⊢
  rw [soundingsref01_Make.l0, if_neg (by omega), (full_perm (sortL_perm s)).length_eq]
  unfold refV
  by_cases h : (fullL s).length ≤ 16
  ·rw [if_neg (by omega), if_pos ⟨hm, hu, h⟩]
  ·rw [if_pos (by omega), if_neg (fun h2 => h h2.2.2)]
 | d + 1, i, k, hi, hk, hm, hu => by
  obtain ⟨k, rfl⟩ : ∃ m, k = m + 2 := ⟨k - 2, by omega⟩
  have hlt : i < s.length := by omega
  have hxi := hx s[i] (List.getElem_mem hlt)
  have hn1 := refN _ hxi.1 (k + 1) (by omega)
  have hv1 := refVal _ hxi.2 (k + 1) (by omega)
  have hmay : mayB s[i] = (nameB (s[i]).f0.data.toList && valueB (s[i]).f1) := rfl
  have hbad : mayB s[i] = false → refV s = ([], false) := fun h => by
   unfold refV
   rw [if_neg (fun h2 => by have := h2.1 s[i] (List.getElem_mem hlt); rw [h] at this; cases this)]
  rw [soundingsref01_Make.l0, if_pos (by omega), if_pos (by omega), rd_at s i hlt, hn1, Option.bind_some, hv1, Option.bind_some]
  cases hn : nameB (s[i]).f0.data.toList with
  | false =>
   rw [if_neg (by decide), soundingsref01_Make.j1, if_pos rfl, hbad (by rw [hmay, hn]; rfl)]
  | true =>
   rw [if_pos rfl]
   cases hv : valueB (s[i]).f1 with
   | false => rw [Bool.not_false, soundingsref01_Make.j1, if_pos rfl, hbad (by rw [hmay, hn, hv]; rfl)]
   | true =>
    rw [Bool.not_true, soundingsref01_Make.j1, if_neg (by decide)]
    have hml : (fullL (sortL (s.take i))).length ≤ i := by
     rw [(full_perm (sortL_perm _)).length_eq]
     exact Nat.le_trans (List.length_filter_le _ _) (by rw [List.length_take]; omega)
    obtain ⟨k2, rfl⟩ : ∃ m, k = m + i + 1 := ⟨k - i - 1, by omega⟩
    have e0 : ((0 : Nat) : Int) = 0 := rfl
    have hlook := look_l1 s (fullL (sortL (s.take i))) i hlt (by omega) i 0 k2 (by omega)
    rw [e0] at hlook
    rw [hlook]
    have hm2 : ∀ x ∈ s.take (i + 1), mayB x = true := fun x h => by
     rw [List.take_succ_eq_append_getElem hlt] at h
     rcases List.mem_append.1 h with h | h
     ·exact hm x h
     ·obtain rfl := List.mem_singleton.1 h
      rw [hmay, hn, hv]; rfl
    by_cases hlk : likeL s i 0 (s[i]).f0 = true
    ·rw [if_pos hlk]
     have := not_like s i hlt ((like_iff s i _).1 hlk)
     unfold refV
     rw [if_neg (fun h2 => this h2.2.1)]
    ·rw [if_neg hlk]
     have hno : ∀ y ∈ s.take i, y.f0 ≠ (s[i]).f0 := fun y hy he => hlk ((like_iff s i _).2 ⟨y, hy, he⟩)
     have hu2 := unlike_take s i hlt hu hno
     by_cases hz : (s[i]).f1.toList = []
     ·rw [if_pos hz, skip_full s i hlt hz]
      exact ref_l0 s hs hx d (i + 1) k2 (by omega) (by omega) hm2 hu2
     ·rw [if_neg hz]
      obtain ⟨k3, rfl⟩ : ∃ m, k2 = m + (fullL (sortL (s.take i))).length + 1 := ⟨k2 - (fullL (sortL (s.take i))).length - 1, by omega⟩
      obtain ⟨p, hp, h1, h2, h3⟩ := put_in s (fullL (sortL (s.take i))) i hlt (by omega) (by omega) (fullL (sortL (s.take i))).length k3 (Nat.le_refl _)
      rw [h3, put_full s i hlt p hz hp h1 (fun t a b => h2 t a b b) hno]
      exact ref_l0 s hs hx d (i + 1) (k3 + p) (by omega) (by omega) hm2 hu2
/-- The document's Make. -/
theorem refMake_some (s : List S44) (h : shortB s = true) (k : Nat) (hk : 5000 ≤ k) : soundingsref01_Make.f k s = some (refV s) := by
 have hs := short_small h
 unfold shortB at h
 rw [Bool.and_eq_true, List.all_eq_true] at h
 have hx : ∀ x ∈ s, x.f0.size ≤ 400 ∧ x.f1.size ≤ 400 := fun x hx => by
  have := h.1 x hx
  unfold shortX at this
  rw [Bool.and_eq_true, decide_eq_true_eq, decide_eq_true_eq] at this
  exact this
 exact ref_l0 s hs.2.2 hx s.length 0 k (by omega) (by omega) (fun x hx => by cases hx) List.Pairwise.nil
end Go.Proofs.YtfbockgjhbfidaaGreatDoor.Pr
end
