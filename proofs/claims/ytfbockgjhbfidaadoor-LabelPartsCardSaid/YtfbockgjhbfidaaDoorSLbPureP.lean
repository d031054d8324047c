/- Label laws, plain: values of names; what is right; what is kept and dropped. -/
import Derived.Test.YtfbockgjhbfidaaDoorSLbPureC
import Derived.Test.YtfbockgjhbfidaaDoorGKeep
import Derived.Test.YtfbockgjhbfidaaDoorGGet
set_option linter.unusedVariables false
set_option linter.unusedSimpArgs false
namespace Go.Proofs.YtfbockgjhbfidaaDoor.Pr
open Go.RowKit Go.Proofs.YtfbockgjhbfidaaDoorW.PrintWords

/-- The value of a name. -/
def getV (n : ByteArray) : List S46 → ByteArray
  | [] => ⟨#[]⟩
  | x :: r => if x.f0.toList = n.toList then x.f1 else getV n r
theorem get_l0 (n : ByteArray) (s : List S46) (hs : s.length ≤ 9223372036854775807) : ∀ (d i k : Nat), i + d = s.length → d < k → label_Get.l0 k n s (s.length : Int) (i : Int) = some (getV n (s.drop i)) ∧ soundingsref01_Get.l0 k s n (i : Int) = some (getV n (s.drop i))
  | 0, i, k, hi, hk => by
    obtain ⟨k, rfl⟩ : ∃ m, k = m + 1 := ⟨k - 1, by omega⟩
    rw [label_Get.l0, soundingsref01_Get.l0, if_neg (by omega), if_neg (by omega), List.drop_eq_nil_of_le (by omega)]
    exact ⟨rfl, rfl⟩
  | d + 1, i, k, hi, hk => by
    obtain ⟨k, rfl⟩ : ∃ m, k = m + 1 := ⟨k - 1, by omega⟩
    have hlt : i < s.length := by omega
    have hw : wrap64 ((i : Int) + 1) = ((i + 1 : Nat) : Int) := by unfold wrap64; omega
    obtain ⟨h1, h2⟩ := get_l0 n s hs d (i + 1) k (by omega) (by omega)
    constructor
    · rw [label_Get.l0, if_pos (by omega), if_pos (by omega), if_pos (by omega), rd_at s i hlt, hw, h1, List.drop_eq_getElem_cons hlt, getV]
      split <;> rfl
    · rw [soundingsref01_Get.l0, if_pos (by omega), if_pos (by omega), rd_at s i hlt, hw, h2, List.drop_eq_getElem_cons hlt, getV]
      split <;> rfl
theorem get_some (n : ByteArray) (s : List S46) (hs : s.length ≤ 9223372036854775807) (k : Nat) (hk : s.length < k) : label_Get.f k s n = some (getV n s) ∧ soundingsref01_Get.f k s n = some (getV n s) := get_l0 n s hs s.length 0 k (by omega) hk
/-! ### What is right -/
theorem ok_back : ∀ (l : List S46) (q : ByteArray), okL (some q) l = true → (∀ x ∈ l, mayB x = true ∧ (x.f1.toList == []) = false) ∧ Asc l ∧ ∀ x ∈ l, cmpB q x.f0 < 0
  | [], q, _ => ⟨(fun _ h => by cases h), List.Pairwise.nil, (fun _ h => by cases h)⟩
  | x :: r, q, h => by
    have e : okL (some q) (x :: r) = (mayB x && !(x.f1.toList == []) && Op.bytesLess q.toList x.f0.toList && okL (some x.f0) r) := rfl
    rw [e, Bool.and_eq_true, Bool.and_eq_true, Bool.and_eq_true, cmpB_less, decide_eq_true_eq, Bool.not_eq_true'] at h
    obtain ⟨⟨⟨h1, h2⟩, h3⟩, h4⟩ := h
    obtain ⟨i1, i2, i3⟩ := ok_back r x.f0 h4
    refine ⟨fun y hy => ?_, List.pairwise_cons.2 ⟨i3, i2⟩, fun y hy => ?_⟩
    · rcases List.mem_cons.1 hy with rfl | hy
      · exact ⟨h1, h2⟩
      · exact i1 y hy
    · rcases List.mem_cons.1 hy with rfl | hy
      · exact h3
      · exact cmpB_lt_trans h3 (Int.le_of_lt (i3 y hy))
theorem ok_none (l : List S46) (h : okL none l = true) : (∀ x ∈ l, mayB x = true ∧ (x.f1.toList == []) = false) ∧ Asc l := by
  cases l with
  | nil => exact ⟨(fun _ h => by cases h), List.Pairwise.nil⟩
  | cons x r =>
    have e : okL none (x :: r) = (mayB x && !(x.f1.toList == []) && true && okL (some x.f0) r) := rfl
    rw [e, Bool.and_eq_true, Bool.and_true, Bool.and_eq_true, Bool.not_eq_true'] at h
    obtain ⟨⟨h1, h2⟩, h4⟩ := h
    obtain ⟨i1, i2, i3⟩ := ok_back r x.f0 h4
    refine ⟨fun y hy => ?_, List.pairwise_cons.2 ⟨i3, i2⟩⟩
    rcases List.mem_cons.1 hy with rfl | hy
    · exact ⟨h1, h2⟩
    · exact i1 y hy
theorem right_iff (l : List S46) : rightB l = true ↔ (∀ x ∈ l, mayB x = true ∧ (x.f1.toList == []) = false) ∧ Asc l ∧ l.length ≤ 16 := by
  unfold rightB
  rw [Bool.and_eq_true, decide_eq_true_eq]
  exact ⟨fun h => ⟨(ok_none l h.1).1, (ok_none l h.1).2, h.2⟩, fun h => ⟨ok_asc l h.1 h.2.1, h.2.2⟩⟩
theorem right_sub {a b : List S46} (h : a.Sublist b) (hb : rightB b = true) : rightB a = true := by
  rw [right_iff] at hb ⊢
  exact ⟨fun x hx => hb.1 x (h.subset hx), hb.2.1.sublist h, Nat.le_trans h.length_le hb.2.2⟩
theorem short_sub {a b : List S46} (h : a.Sublist b) (hb : shortB b = true) : shortB a = true := by
  unfold shortB at hb ⊢
  rw [Bool.and_eq_true, List.all_eq_true, decide_eq_true_eq] at hb ⊢
  exact ⟨fun x hx => hb.1 x (h.subset hx), Nat.le_trans h.length_le hb.2⟩
theorem keep_sub (a : List S46) (ns : List ByteArray) : (keepL a ns).Sublist a := List.filter_sublist
theorem drop_sub (a : List S46) (ns : List ByteArray) : (dropL a ns).Sublist a := List.filter_sublist
end Go.Proofs.YtfbockgjhbfidaaDoor.Pr
