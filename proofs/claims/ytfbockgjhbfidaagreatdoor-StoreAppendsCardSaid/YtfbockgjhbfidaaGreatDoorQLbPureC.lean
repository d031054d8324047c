/- Texts of this session, cut down to what one claim needs and joined: LbPureC. -/
import Derived.Test.YtfbockgjhbfidaaGreatDoorQGPure
import Derived.Test.YtfbockgjhbfidaaGreatDoorQGCmp
set_option linter.unusedVariables false
set_option linter.unusedSimpArgs false
namespace Go.Proofs.YtfbockgjhbfidaaGreatDoor.Pr
open Go.RowKit Go.Proofs.YtfbockgjhbfidaaGreatDoorW.PrintWords

theorem cb_range : ∀ a b : List UInt8, Lib.compareBytes a b = -1 ∨ Lib.compareBytes a b = 0 ∨ Lib.compareBytes a b = 1
 | [], [] => by simp [Lib.compareBytes]
 | [], _ :: _ => by simp [Lib.compareBytes]
 | _ :: _, [] => by simp [Lib.compareBytes]
 | a :: al, b :: bl => by
  unfold Lib.compareBytes
  split
  ·exact .inl rfl
  ·split
   ·exact .inr (.inr rfl)
   ·exact cb_range al bl
theorem cmpB_range (a b : ByteArray) : cmpB a b = -1 ∨ cmpB a b = 0 ∨ cmpB a b = 1 := cb_range _ _
theorem cmpL_range (x y : S44) : cmpL x y = -1 ∨ cmpL x y = 0 ∨ cmpL x y = 1 := by
 unfold cmpL
 split
 ·exact cmpB_range _ _
 ·exact cmpB_range _ _
theorem cmpLs_range : ∀ a b : List S44, cmpLs a b = -1 ∨ cmpLs a b = 0 ∨ cmpLs a b = 1
 | [], [] => by simp [cmpLs]
 | [], _ :: _ => by simp [cmpLs]
 | _ :: _, [] => by simp [cmpLs]
 | x :: r, y :: t => by
  unfold cmpLs
  split
  ·exact cmpLs_range r t
  ·exact cmpL_range x y
theorem cmpLs_neg : ∀ a b : List S44, cmpLs b a = - cmpLs a b
 | [], [] => rfl
 | [], _ :: _ => rfl
 | _ :: _, [] => rfl
 | x :: r, y :: t => by
  unfold cmpLs
  rw [cmpL_neg x y, cmpLs_neg r t]
  by_cases h : cmpL x y = 0
  ·rw [if_pos (by omega), if_pos h]
  ·rw [if_neg (by omega), if_neg h]
theorem cmpLs_self : ∀ a : List S44, cmpLs a a = 0
 | [] => rfl
 | x :: r => by
  unfold cmpLs
  rw [if_pos ((cmpL_zero x x).2 rfl), cmpLs_self r]
theorem cmpLs_zero : ∀ a b : List S44, cmpLs a b = 0 ↔ a = b
 | [], [] => by simp [cmpLs]
 | [], _ :: _ => by simp [cmpLs]
 | _ :: _, [] => by simp [cmpLs]
 | x :: r, y :: t => by
  unfold cmpLs
  rw [List.cons.injEq]
  by_cases h : cmpL x y = 0
  ·rw [if_pos h, cmpLs_zero r t]
   have := (cmpL_zero x y).1 h
   exact ⟨fun h2 => ⟨this, h2⟩, fun h2 => h2.2⟩
  ·rw [if_neg h]
   exact ⟨fun h2 => absurd h2 h, fun h2 => absurd ((cmpL_zero x y).2 h2.1) h⟩
theorem cmpL_lt_trans {x y z : S44} (h : cmpL x y < 0) (h2 : cmpL y z ≤ 0) : cmpL x z < 0 := by
 rcases Int.lt_or_le (cmpL x z) 0 with h3 | h3
 ·exact h3
 ·have h4 : cmpL z x ≤ 0 := by rw [cmpL_neg]; omega
  have h5 := cmpL_trans h2 h4
  rw [cmpL_neg] at h5
  omega
theorem cmpLs_trans : ∀ a b c : List S44, cmpLs a b ≤ 0 → cmpLs b c ≤ 0 → cmpLs a c ≤ 0
 | [], _, [], _, _ => by simp [cmpLs]
 | [], _, _ :: _, _, _ => by simp [cmpLs]
 | _ :: _, [], _, h, _ => by simp [cmpLs] at h
 | _ :: _, _ :: _, [], _, h => by simp [cmpLs] at h
 | x :: r, y :: t, z :: u, h, h2 => by
  unfold cmpLs at h h2 ⊢
  by_cases e1 : cmpL x y = 0
  ·rw [if_pos e1] at h
   have e := (cmpL_zero x y).1 e1
   rw [e]
   by_cases e2 : cmpL y z = 0
   ·rw [if_pos e2] at h2 ⊢
    exact cmpLs_trans r t u h h2
   ·rw [if_neg e2] at h2 ⊢
    exact h2
  ·rw [if_neg e1] at h
   have h3 : cmpL y z ≤ 0 := by
    by_cases e2 : cmpL y z = 0
    ·omega
    ·rw [if_neg e2] at h2; exact h2
   have h4 := cmpL_lt_trans (show cmpL x y < 0 by omega) h3
   rw [if_neg (by omega)]
   omega
theorem less_cmp (a b : ByteArray) : Op.bytesLess a.toList b.toList = decide (cmpB a b < 0) := cmpB_less a b
theorem eq_cmp (a b : ByteArray) : a.toList = b.toList ↔ cmpB a b = 0 := by
 rw [← toList_eq, beq_iff_eq]
theorem beq_cmp (a b : ByteArray) : (a.toList == b.toList) = decide (cmpB a b = 0) := by
 by_cases h : cmpB a b = 0
 ·rw [decide_eq_true h, (toList_eq a b).2 h]
 ·rw [decide_eq_false h]
  cases e : (a.toList == b.toList) with
  | false => rfl
  | true => exact absurd ((toList_eq a b).1 e) h
theorem refCmp_l0 (a b : List S44) (ha : a.length ≤ 9223372036854775807) (hb : b.length ≤ 9223372036854775807) : ∀ (d i k : Nat), i + d = a.length → 3 * d + 4 ≤ k → i ≤ b.length → soundingsref01_Cmp.l0 k a b (i : Int) = some (cmpLs (a.drop i) (b.drop i))
 | 0, i, k, hi, hk, hib => by
  obtain ⟨k, rfl⟩ : ∃ m, k = m + 2 := ⟨k - 2, by omega⟩
  rw [soundingsref01_Cmp.l0, if_neg (by omega), soundingsref01_Cmp.j1, if_neg (by simp), (show a.drop i = [] from List.drop_eq_nil_of_le (by omega))]
  by_cases h : a.length < b.length
  ·rw [if_pos (by omega), List.drop_eq_getElem_cons (l := b) (i := i) (by omega), cmpLs]
  ·rw [if_neg (by omega), if_neg (by omega), (show b.drop i = [] from List.drop_eq_nil_of_le (by omega)), cmpLs]
 | d + 1, i, k, hi, hk, hib => by
  obtain ⟨k, rfl⟩ : ∃ m, k = m + 3 := ⟨k - 3, by omega⟩
  have hlt : i < a.length := by omega
  have hw : wrap64 ((i : Int) + 1) = ((i + 1 : Nat) : Int) := by unfold wrap64; omega
  rw [soundingsref01_Cmp.l0, if_pos (by omega)]
  by_cases hl : i < b.length
  ·rw [decide_eq_true (by omega : (i : Int) < (b.length : Int)), soundingsref01_Cmp.j1, if_pos rfl, if_pos (by omega), if_pos (by omega), if_pos (by omega), rd_at a i hlt, rd_at b i hl, less_cmp, less_cmp, List.drop_eq_getElem_cons hlt, List.drop_eq_getElem_cons hl, cmpLs]
   have r0 := cmpB_range (a[i]).f0 (b[i]).f0
   have r1 := cmpB_range (a[i]).f1 (b[i]).f1
   have e0 := eq_cmp (a[i]).f0 (b[i]).f0
   unfold cmpL
   by_cases h1 : cmpB (a[i]).f0 (b[i]).f0 < 0
   ·rw [if_pos (decide_eq_true h1), soundingsref01_Cmp.j2, if_pos rfl, if_neg (show ¬ cmpB (a[i]).f0 (b[i]).f0 = 0 by omega), if_neg (show ¬ cmpB (a[i]).f0 (b[i]).f0 = 0 by omega)]
    congr 1; omega
   ·rw [if_neg (by simpa using h1)]
    by_cases h2 : cmpB (a[i]).f0 (b[i]).f0 = 0
    ·rw [if_pos (e0.2 h2), if_pos h2, soundingsref01_Cmp.j2]
     by_cases h3 : cmpB (a[i]).f1 (b[i]).f1 < 0
     ·rw [if_pos (decide_eq_true h3), if_neg (show ¬ cmpB (a[i]).f1 (b[i]).f1 = 0 by omega)]
      congr 1; omega
     ·rw [if_neg (by simpa using h3), if_pos (by omega), if_pos (by omega), if_pos (by omega), rd_at a i hlt, rd_at b i hl, beq_cmp, beq_cmp, decide_eq_true h2]
      by_cases h4 : cmpB (a[i]).f1 (b[i]).f1 = 0
      ·rw [decide_eq_true h4, if_neg (by decide), if_pos h4, hw]
       exact refCmp_l0 a b ha hb d (i + 1) k (by omega) (by omega) (by omega)
      ·rw [decide_eq_false h4, if_pos (by decide), if_neg h4]
       congr 1; omega
    ·rw [if_neg (fun h => h2 (e0.1 h)), if_neg h2, if_neg h2, soundingsref01_Cmp.j2, if_neg (by decide), if_pos (by omega), if_pos (by omega), if_pos (by omega), rd_at a i hlt, rd_at b i hl, beq_cmp, decide_eq_false h2, if_pos (by simp)]
     congr 1; omega
  ·rw [decide_eq_false (by omega : ¬ (i : Int) < (b.length : Int)), soundingsref01_Cmp.j1, if_neg (by simp), if_neg (by omega), if_pos (by omega), List.drop_eq_getElem_cons hlt, (show b.drop i = [] from List.drop_eq_nil_of_le (by omega)), cmpLs]
theorem refCmp_some (a b : List S44) (ha : a.length ≤ 9223372036854775807) (hb : b.length ≤ 9223372036854775807) (k : Nat) (hk : 3 * a.length + 4 ≤ k) : soundingsref01_Cmp.f k a b = some (cmpLs a b) := refCmp_l0 a b ha hb a.length 0 k (by omega) hk (Nat.zero_le _)
theorem labCmp_some (a b : List S44) (ha : a.length ≤ 9223372036854775807) (hb : b.length ≤ 9223372036854775807) : label_Cmp.f a b = some (cmpLs a b) := by unfold label_Cmp.f; rw [if_pos ⟨ha, hb⟩]
end Go.Proofs.YtfbockgjhbfidaaGreatDoor.Pr
