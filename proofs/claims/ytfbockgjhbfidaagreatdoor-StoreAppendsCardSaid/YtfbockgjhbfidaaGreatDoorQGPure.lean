/- Texts of this session, cut down to what one claim needs and joined: LbPure, LbPureM, LbPureS. -/
import Derived.Test.YtfbockgjhbfidaaGreatDoorQGUMk
import Derived.Test.YtfbockgjhbfidaaGreatDoorQGPr
section
set_option linter.unusedVariables false
set_option linter.unusedSimpArgs false
namespace Go.Proofs.YtfbockgjhbfidaaGreatDoor.Pr
open Go.RowKit Go.Proofs.YtfbockgjhbfidaaGreatDoorW.PrintWords

theorem small_dec (l : List S44) (h : smallL l) : label_Make.f l = some (makeV (sortL l)) := by unfold label_Make.f; rw [if_pos h]
theorem rd_at (l : List S44) (i : Nat) (h : i < l.length) : rd_T44 l (i : Int) = l[i] := by simp [rd_T44, h]
def shortX (x : S44) : Bool := decide (x.f0.size ≤ 400) && decide (x.f1.size ≤ 400)
def shortB (l : List S44) : Bool := l.all shortX && decide (l.length ≤ 40)
theorem short_l0 (s : List S44) (hs : s.length ≤ 9223372036854775807) : ∀ (d i k : Nat), i + d = s.length → d < k → soundingsref01_Short.l0 k s (i : Int) = some ((s.drop i).all shortX && decide (s.length ≤ 40))
 | 0, i, k, hi, hk => by
  obtain ⟨k, rfl⟩ : ∃ m, k = m + 1 := ⟨k - 1, by omega⟩
  rw [soundingsref01_Short.l0, if_neg (by omega), List.drop_eq_nil_of_le (by omega)]
  simp
  omega
 | d + 1, i, k, hi, hk => by
  obtain ⟨k, rfl⟩ : ∃ m, k = m + 1 := ⟨k - 1, by omega⟩
  have hlt : i < s.length := by omega
  have hw : wrap64 ((i : Int) + 1) = ((i + 1 : Nat) : Int) := by unfold wrap64; omega
  rw [soundingsref01_Short.l0, if_pos (by omega), if_pos (by omega), rd_at s i hlt, hw, short_l0 s hs d (i + 1) k (by omega) (by omega), List.drop_eq_getElem_cons hlt, List.all_cons]
  unfold shortX
  by_cases h1 : ((s[i]).f0.size : Int) > 400
  ·rw [if_pos h1, decide_eq_false (by omega : ¬ (s[i]).f0.size ≤ 400)]; rfl
  ·rw [if_neg h1, decide_eq_true (by omega : (s[i]).f0.size ≤ 400)]
   by_cases h2 : ((s[i]).f1.size : Int) > 400
   ·rw [if_pos h2, decide_eq_false (by omega : ¬ (s[i]).f1.size ≤ 400)]; rfl
   ·rw [if_neg h2, decide_eq_true (by omega : (s[i]).f1.size ≤ 400)]; rfl
theorem short_some (l : List S44) (hs : l.length ≤ 9223372036854775807) (k : Nat) (hk : l.length < k) : soundingsref01_Short.f k l = some (shortB l) := short_l0 l hs l.length 0 k (by omega) hk
theorem short_small {l : List S44} (h : shortB l = true) : smallL l ∧ True ∧ l.length ≤ 40 := by
 unfold shortB at h
 rw [Bool.and_eq_true, List.all_eq_true, decide_eq_true_eq] at h
 refine ⟨⟨by omega, fun x hx => ?_⟩, trivial, h.2⟩
 have := h.1 x hx; unfold shortX at this; rw [Bool.and_eq_true, decide_eq_true_eq, decide_eq_true_eq] at this; omega
end Go.Proofs.YtfbockgjhbfidaaGreatDoor.Pr
end

section
set_option linter.unusedVariables false
set_option linter.unusedSimpArgs false
namespace Go.Proofs.YtfbockgjhbfidaaGreatDoor.Pr
open Go.RowKit Go.Proofs.YtfbockgjhbfidaaGreatDoorW.PrintWords

theorem toList_eq (a b : ByteArray) : (a.toList == b.toList) = true ↔ cmpB a b = 0 := by
 rw [beq_iff_eq, cmpB_zero, Lib.toList_data, Lib.toList_data]
 constructor
 ·intro h; exact ByteArray.ext (Array.toList_inj.mp h)
 ·intro h; rw [h]
theorem name_le {x y : S44} (h : cmpL x y ≤ 0) : cmpB x.f0 y.f0 ≤ 0 := by
 unfold cmpL at h
 by_cases a : cmpB x.f0 y.f0 = 0
 ·omega
 ·rw [if_neg a] at h; exact h
def Asc (l : List S44) : Prop := l.Pairwise fun x y => cmpB x.f0 y.f0 < 0
instance (l : List S44) : Decidable (Asc l) := by unfold Asc; infer_instance
theorem good_from : ∀ (l : List S44) (q : ByteArray), Sorted l → (∀ x ∈ l, cmpB q x.f0 ≤ 0) → (goodL (some q) l = true ↔ (∀ x ∈ l, mayB x = true) ∧ Asc l ∧ ∀ x ∈ l, cmpB q x.f0 < 0)
 | [], q, _, _ => by
  unfold goodL Asc
  simp
 | x :: r, q, hs, hq => by
  unfold Sorted at hs
  rw [List.pairwise_cons] at hs
  have hx := hq x (by simp)
  have ih := good_from r x.f0 hs.2 (fun y hy => name_le (hs.1 y hy))
  have e : goodL (some q) (x :: r) = (mayB x && !(q.toList == x.f0.toList) && goodL (some x.f0) r) := rfl
  rw [e, Bool.and_eq_true, Bool.and_eq_true, ih]
  unfold Asc
  rw [List.pairwise_cons]
  have hne : (!(q.toList == x.f0.toList)) = true ↔ cmpB q x.f0 < 0 := by
   cases h : (q.toList == x.f0.toList) with
   | true => have := (toList_eq _ _).1 h; simp; omega
   | false =>
    have : ¬ cmpB q x.f0 = 0 := fun h2 => by rw [(toList_eq _ _).2 h2] at h; cases h
    simp; omega
  rw [hne]
  constructor
  ·rintro ⟨⟨h1, h2⟩, h3, h4, h5⟩
   refine ⟨fun y hy => ?_, ⟨h5, h4⟩, fun y hy => ?_⟩
   ·rcases List.mem_cons.1 hy with rfl | hy
    ·exact h1
    ·exact h3 y hy
   ·rcases List.mem_cons.1 hy with rfl | hy
    ·exact h2
    ·exact cmpB_lt_trans h2 (Int.le_of_lt (h5 y hy))
  ·rintro ⟨h1, ⟨h2, h3⟩, h4⟩
   exact ⟨⟨h1 x (by simp), h4 x (by simp)⟩, fun y hy => h1 y (by simp [hy]), h3, h2⟩
theorem good_iff (l : List S44) (hs : Sorted l) : goodL none l = true ↔ (∀ x ∈ l, mayB x = true) ∧ Asc l := by
 cases l with
 | nil => unfold goodL Asc; simp
 | cons x r =>
  unfold Sorted at hs
  rw [List.pairwise_cons] at hs
  have ih := good_from r x.f0 hs.2 (fun y hy => name_le (hs.1 y hy))
  have e : goodL none (x :: r) = (mayB x && true && goodL (some x.f0) r) := rfl
  rw [e, Bool.and_true, Bool.and_eq_true, ih]
  unfold Asc
  rw [List.pairwise_cons]
  constructor
  ·rintro ⟨h1, h3, h4, h5⟩
   refine ⟨fun y hy => ?_, ⟨h5, h4⟩⟩
   rcases List.mem_cons.1 hy with rfl | hy
   ·exact h1
   ·exact h3 y hy
  ·rintro ⟨h1, h2, h3⟩
   exact ⟨h1 x (by simp), fun y hy => h1 y (by simp [hy]), h3, h2⟩
theorem ok_from : ∀ (l : List S44) (q : ByteArray), (∀ x ∈ l, mayB x = true ∧ (x.f1.toList == []) = false) → Asc l → (∀ x ∈ l, cmpB q x.f0 < 0) → okL (some q) l = true
 | [], q, _, _, _ => by unfold okL; rfl
 | x :: r, q, hm, ha, hq => by
  unfold Asc at ha
  rw [List.pairwise_cons] at ha
  have e : okL (some q) (x :: r) = (mayB x && !(x.f1.toList == []) && Op.bytesLess q.toList x.f0.toList && okL (some x.f0) r) := rfl
  rw [e, (hm x (by simp)).1, (hm x (by simp)).2, cmpB_less, decide_eq_true (hq x (by simp)), ok_from r x.f0 (fun y hy => hm y (by simp [hy])) ha.2 ha.1]
  rfl
theorem ok_asc (l : List S44) (hm : ∀ x ∈ l, mayB x = true ∧ (x.f1.toList == []) = false) (ha : Asc l) : okL none l = true := by
 cases l with
 | nil => unfold okL; rfl
 | cons x r =>
  unfold Asc at ha
  rw [List.pairwise_cons] at ha
  have e : okL none (x :: r) = (mayB x && !(x.f1.toList == []) && true && okL (some x.f0) r) := rfl
  rw [e, (hm x (by simp)).1, (hm x (by simp)).2, ok_from r x.f0 (fun y hy => hm y (by simp [hy])) ha.2 ha.1]
  rfl
def fullL (l : List S44) : List S44 := l.filter fun x => !(x.f1.toList == [])
/-- What Make answers, in plain words. -/
theorem makeV_eq (l : List S44) (hs : Sorted l) : makeV l = if (∀ x ∈ l, mayB x = true) ∧ Asc l ∧ (fullL l).length ≤ 16 then (fullL l, none) else ([], some 1) := by
 unfold makeV
 by_cases h : (∀ x ∈ l, mayB x = true) ∧ Asc l
 ·have hok : okL none (fullL l) = true := ok_asc _ (fun x hx => by
   unfold fullL at hx
   rw [List.mem_filter] at hx
   exact ⟨h.1 x hx.1, by simpa using hx.2⟩) (h.2.sublist List.filter_sublist)
  rw [if_pos ((good_iff l hs).2 h)]
  have hr : rightB (fullL l) = decide ((fullL l).length ≤ 16) := by unfold rightB; rw [hok, Bool.true_and]
  change (if rightB (fullL l) = true then (fullL l, none) else ([], some 1)) = _
  rw [hr]
  by_cases h2 : (fullL l).length ≤ 16
  ·rw [if_pos (by simp [h2]), if_pos ⟨h.1, h.2, h2⟩]
  ·rw [if_neg (by simp [h2]), if_neg (fun h3 => h2 h3.2.2)]
 ·rw [if_neg (fun h2 => h ((good_iff l hs).1 h2)), if_neg (fun h3 => h ⟨h3.1, h3.2.1⟩)]
theorem full_perm {a b : List S44} (h : a.Perm b) : (fullL a).Perm (fullL b) := h.filter _
theorem full_sorted {a : List S44} (h : Sorted a) : Sorted (fullL a) := by unfold Sorted at h ⊢; exact h.sublist List.filter_sublist
end Go.Proofs.YtfbockgjhbfidaaGreatDoor.Pr
end

section
set_option linter.unusedVariables false
set_option linter.unusedSimpArgs false
namespace Go.Proofs.YtfbockgjhbfidaaGreatDoor.Pr
open Go.RowKit Go.Proofs.YtfbockgjhbfidaaGreatDoorW.PrintWords

theorem right_some {l : List S44} (h : smallL l) : label_Right.f l = some (rightB l) := by unfold label_Right.f; rw [if_pos h]
theorem makeV_two (l : List S44) : (makeV l).2 = none ∧ rightB (makeV l).1 = true ∧ (makeV l).1 = fullL l ∨ makeV l = ([], some 1) := by
 unfold makeV
 split
 ·split
  ·rename_i h
   exact .inl ⟨rfl, h, rfl⟩
  ·exact .inr rfl
 ·exact .inr rfl
end Go.Proofs.YtfbockgjhbfidaaGreatDoor.Pr
end
