/- Texts of this session, cut down to what one claim needs and joined: LbPureC. -/
import Derived.Test.YtfbockgjhbfidaaDoorZGPure
import Derived.Test.YtfbockgjhbfidaaDoorZGCmp
set_option linter.unusedVariables false
set_option linter.unusedSimpArgs false
namespace Go.Proofs.YtfbockgjhbfidaaDoor.Pr
open Go.RowKit Go.Proofs.YtfbockgjhbfidaaDoorW.PrintWords

theorem cb_range : ∀ a b : List UInt8, Lib.compareBytes a b = -1 ∨ Lib.compareBytes a b = 0 ∨ Lib.compareBytes a b = 1
  | [], [] => by simp [Lib.compareBytes]
  | [], _ :: _ => by simp [Lib.compareBytes]
  | _ :: _, [] => by simp [Lib.compareBytes]
  | a :: al, b :: bl => by
    unfold Lib.compareBytes
    split
    · exact .inl rfl
    · split
      · exact .inr (.inr rfl)
      · exact cb_range al bl
theorem cmpB_range (a b : ByteArray) : cmpB a b = -1 ∨ cmpB a b = 0 ∨ cmpB a b = 1 := cb_range _ _
theorem cmpL_range (x y : S46) : cmpL x y = -1 ∨ cmpL x y = 0 ∨ cmpL x y = 1 := by
  unfold cmpL
  split
  · exact cmpB_range _ _
  · exact cmpB_range _ _
theorem cmpLs_range : ∀ a b : List S46, cmpLs a b = -1 ∨ cmpLs a b = 0 ∨ cmpLs a b = 1
  | [], [] => by simp [cmpLs]
  | [], _ :: _ => by simp [cmpLs]
  | _ :: _, [] => by simp [cmpLs]
  | x :: r, y :: t => by
    unfold cmpLs
    split
    · exact cmpLs_range r t
    · exact cmpL_range x y
theorem cmpLs_neg : ∀ a b : List S46, cmpLs b a = - cmpLs a b
  | [], [] => rfl
  | [], _ :: _ => rfl
  | _ :: _, [] => rfl
  | x :: r, y :: t => by
    unfold cmpLs
    rw [cmpL_neg x y, cmpLs_neg r t]
    by_cases h : cmpL x y = 0
    · rw [if_pos (by omega), if_pos h]
    · rw [if_neg (by omega), if_neg h]
theorem cmpLs_self : ∀ a : List S46, cmpLs a a = 0
  | [] => rfl
  | x :: r => by
    unfold cmpLs
    rw [if_pos ((cmpL_zero x x).2 rfl), cmpLs_self r]
theorem cmpL_lt_trans {x y z : S46} (h : cmpL x y < 0) (h2 : cmpL y z ≤ 0) : cmpL x z < 0 := by
  rcases Int.lt_or_le (cmpL x z) 0 with h3 | h3
  · exact h3
  · have h4 : cmpL z x ≤ 0 := by rw [cmpL_neg]; omega
    have h5 := cmpL_trans h2 h4
    rw [cmpL_neg] at h5
    omega
theorem cmpLs_trans : ∀ a b c : List S46, cmpLs a b ≤ 0 → cmpLs b c ≤ 0 → cmpLs a c ≤ 0
  | [], _, [], _, _ => by simp [cmpLs]
  | [], _, _ :: _, _, _ => by simp [cmpLs]
  | _ :: _, [], _, h, _ => by simp [cmpLs] at h
  | _ :: _, _ :: _, [], _, h => by simp [cmpLs] at h
  | x :: r, y :: t, z :: u, h, h2 => by
    unfold cmpLs at h h2 ⊢
    by_cases e1 : cmpL x y = 0
    · rw [if_pos e1] at h
      have e := (cmpL_zero x y).1 e1
      rw [e]
      by_cases e2 : cmpL y z = 0
      · rw [if_pos e2] at h2 ⊢
        exact cmpLs_trans r t u h h2
      · rw [if_neg e2] at h2 ⊢
        exact h2
    · rw [if_neg e1] at h
      have h3 : cmpL y z ≤ 0 := by
        by_cases e2 : cmpL y z = 0
        · omega
        · rw [if_neg e2] at h2; exact h2
      have h4 := cmpL_lt_trans (show cmpL x y < 0 by omega) h3
      rw [if_neg (by omega)]
      omega
theorem labCmp_some (a b : List S46) (ha : a.length ≤ 9223372036854775807) (hb : b.length ≤ 9223372036854775807) : label_Cmp.f a b = some (cmpLs a b) := by unfold label_Cmp.f; rw [if_pos ⟨ha, hb⟩]
end Go.Proofs.YtfbockgjhbfidaaDoor.Pr
