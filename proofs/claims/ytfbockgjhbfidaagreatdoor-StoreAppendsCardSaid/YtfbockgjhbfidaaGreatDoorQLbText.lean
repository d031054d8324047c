/- Texts of this session, cut down to what one claim needs and joined: LbText. -/
import Derived.Test.YtfbockgjhbfidaaGreatDoorQGVal
import Derived.Lib.ValidLaws
import Derived.Test.YtfbockgjhbfidaaGreatDoorQGPr
set_option linter.unusedVariables false
set_option linter.unusedSimpArgs false
namespace Go.Proofs.YtfbockgjhbfidaaGreatDoor.Pr
open Go.RowKit Go.Proofs.YtfbockgjhbfidaaGreatDoorW.PrintWords

theorem getD_at (l : List UInt8) (i : Nat) (h : i < l.length) : l.getD i 0 = l[i] := by simp [List.getD, h]
theorem in_some (l : List UInt8) (i : Nat) (lo hi : Int) : soundingsref01_in.f (bs l) (i : Int) lo hi = some (decide (i < l.length ∧ lo ≤ ((l.getD i 0).toNat : Int) ∧ ((l.getD i 0).toNat : Int) ≤ hi)) := by
 unfold soundingsref01_in.f
 rw [bs_size]
 by_cases h : i < l.length
 ·rw [if_pos (by omega), if_pos (by omega), bs_at l i h, getD_at l i h]
  by_cases h2 : ((l[i]).toNat : Int) ≥ lo
  ·rw [if_pos h2]
   congr 1
   apply decide_eq_decide.mpr
   constructor
   ·intro h3; exact ⟨h, h2, h3⟩
   ·intro h3; exact h3.2.2
  ·rw [if_neg h2, decide_eq_false (fun h3 => h2 h3.2.1)]
 ·rw [if_neg (by omega), decide_eq_false (fun h3 => h h3.1)]
def runeN (m b0 b1 b2 b3 : Nat) : Nat := if b0 < 128 then 1 else (Lib.checkN m b1 b2 b3 (Lib.firstT b0 % 8) (Lib.accLo (Lib.firstT b0 / 16)) (Lib.accHi (Lib.firstT b0 / 16))).getD 0
set_option maxHeartbeats 4000000 in
theorem rune_some (s : List UInt8) (i : Nat) (hi : i < s.length) (hs : s.length ≤ 1000000) (k : Nat) (hk : 8 ≤ k) :
  soundingsref01_Rune.f k (bs s) (i : Int) = some ((runeN (s.length - i) (s.getD i 0).toNat (s.getD (i + 1) 0).toNat (s.getD (i + 2) 0).toNat (s.getD (i + 3) 0).toNat : Nat) : Int) := by
 obtain ⟨k, rfl⟩ : ∃ m, k = m + 8 := ⟨k - 8, by omega⟩
 have w1 : wrap64 ((i : Int) + 1) = ((i + 1 : Nat) : Int) := by unfold wrap64; omega
 have w2 : wrap64 ((i : Int) + 2) = ((i + 2 : Nat) : Int) := by unfold wrap64; omega
 have w3 : wrap64 ((i : Int) + 3) = ((i + 3 : Nat) : Int) := by unfold wrap64; omega
 simp only [soundingsref01_Rune.f, soundingsref01_Rune.j0, soundingsref01_Rune.j1, soundingsref01_Rune.j2, soundingsref01_Rune.j3, soundingsref01_Rune.j4, soundingsref01_Rune.j5, soundingsref01_Rune.j6, w1, w2, w3, in_some, Option.bind_some, bs_size]
 rw [bs_at s i hi, ← getD_at s i hi]
 have hb0 := (s.getD i 0).toNat_lt
 generalize (s.getD i 0).toNat = b0 at *
 generalize (s.getD (i + 1) 0).toNat = b1 at *
 generalize (s.getD (i + 2) 0).toNat = b2 at *
 generalize (s.getD (i + 3) 0).toNat = b3 at *
 obtain ⟨m, hm⟩ : ∃ m, s.length - i = m := ⟨_, rfl⟩
 have i1 : (i + 1 < s.length) = (2 ≤ m) := by rw [eq_iff_iff]; omega
 have i2 : (i + 2 < s.length) = (3 ≤ m) := by rw [eq_iff_iff]; omega
 have i3 : (i + 3 < s.length) = (4 ≤ m) := by rw [eq_iff_iff]; omega
 rw [hm]
 simp only [i1, i2, i3]
 have hi0 : (0 : Int) ≤ (i : Int) := by omega
 have hi1 : (i : Int) < (s.length : Int) := by omega
 rw [if_pos hi0, if_pos hi1]
 clear w1 w2 w3 i1 i2 i3 hm hi0 hi1 hi hs
 by_cases c : b0 < 128
 ·rw [if_pos (by omega)]
  unfold runeN
  rw [if_pos c]
  rfl
 have key : ∀ sz lo hi, Lib.firstT b0 % 8 = sz → Lib.accLo (Lib.firstT b0 / 16) = lo → Lib.accHi (Lib.firstT b0 / 16) = hi → runeN m b0 b1 b2 b3 = (Lib.checkN m b1 b2 b3 sz lo hi).getD 0 := fun sz lo hi e1 e2 e3 => by
  unfold runeN
  rw [if_neg c, e1, e2, e3]
 have fin : ∀ sz lo hi, runeN m b0 b1 b2 b3 = (Lib.checkN m b1 b2 b3 sz lo hi).getD 0 → True := fun _ _ _ _ => trivial
 by_cases c0 : b0 < 194
 ·have hk := key 1 0 0 (by simp [Lib.firstT, c, c0]) (by simp [Lib.firstT, Lib.accLo, c, c0]) (by simp [Lib.firstT, Lib.accHi, c, c0])
  have f0 : ((b0 : Int) < 128) = False := eq_false (by omega)
  have f1 : ((b0 : Int) ≥ 194) = False := eq_false (by omega)
  have f2 : ((b0 : Int) < 224) = True := eq_true (by omega)
  have f3 : ((b0 : Int) ≥ 224) = False := eq_false (by omega)
  have f4 : ((b0 : Int) < 240) = True := eq_true (by omega)
  have f5 : ((b0 : Int) = 224) = False := eq_false (by omega)
  have f6 : ((b0 : Int) = 237) = False := eq_false (by omega)
  have f7 : ((b0 : Int) ≥ 240) = False := eq_false (by omega)
  have f8 : ((b0 : Int) < 245) = True := eq_true (by omega)
  have f9 : ((b0 : Int) = 240) = False := eq_false (by omega)
  have f10 : ((b0 : Int) = 244) = False := eq_false (by omega)
  rw [hk]
  clear hk key
  simp only [f0, f1, f2, f3, f4, f5, f6, f7, f8, f9, f10, if_true, if_false, decide_true, decide_false, Bool.false_eq_true, reduceIte]
  simp [Lib.checkN]
 by_cases c1 : b0 < 224
 ·have hk := key 2 128 191 (by simp [Lib.firstT, c, c0, c1]) (by simp [Lib.firstT, Lib.accLo, c, c0, c1]) (by simp [Lib.firstT, Lib.accHi, c, c0, c1])
  have f0 : ((b0 : Int) < 128) = False := eq_false (by omega)
  have f1 : ((b0 : Int) ≥ 194) = True := eq_true (by omega)
  have f2 : ((b0 : Int) < 224) = True := eq_true (by omega)
  have f3 : ((b0 : Int) ≥ 224) = False := eq_false (by omega)
  have f4 : ((b0 : Int) < 240) = True := eq_true (by omega)
  have f5 : ((b0 : Int) = 224) = False := eq_false (by omega)
  have f6 : ((b0 : Int) = 237) = False := eq_false (by omega)
  have f7 : ((b0 : Int) ≥ 240) = False := eq_false (by omega)
  have f8 : ((b0 : Int) < 245) = True := eq_true (by omega)
  have f9 : ((b0 : Int) = 240) = False := eq_false (by omega)
  have f10 : ((b0 : Int) = 244) = False := eq_false (by omega)
  rw [hk]
  clear hk key
  simp only [f0, f1, f2, f3, f4, f5, f6, f7, f8, f9, f10, if_true, if_false, decide_true, decide_false, Bool.false_eq_true, reduceIte]
  unfold Lib.checkN
  simp only [decide_eq_true_eq, Nat.reduceEqDiff, reduceIte]
  (repeat' split) <;> first | (exfalso; omega) | with_reducible rfl | (simp; done)
 by_cases c2 : b0 = 224
 ·have hk := key 3 160 191 (by simp [Lib.firstT, c, c0, c1, c2]) (by simp [Lib.firstT, Lib.accLo, c, c0, c1, c2]) (by simp [Lib.firstT, Lib.accHi, c, c0, c1, c2])
  have f0 : ((b0 : Int) < 128) = False := eq_false (by omega)
  have f1 : ((b0 : Int) ≥ 194) = True := eq_true (by omega)
  have f2 : ((b0 : Int) < 224) = False := eq_false (by omega)
  have f3 : ((b0 : Int) ≥ 224) = True := eq_true (by omega)
  have f4 : ((b0 : Int) < 240) = True := eq_true (by omega)
  have f5 : ((b0 : Int) = 224) = True := eq_true (by omega)
  have f6 : ((b0 : Int) = 237) = False := eq_false (by omega)
  have f7 : ((b0 : Int) ≥ 240) = False := eq_false (by omega)
  have f8 : ((b0 : Int) < 245) = True := eq_true (by omega)
  have f9 : ((b0 : Int) = 240) = False := eq_false (by omega)
  have f10 : ((b0 : Int) = 244) = False := eq_false (by omega)
  rw [hk]
  clear hk key
  simp only [f0, f1, f2, f3, f4, f5, f6, f7, f8, f9, f10, if_true, if_false, decide_true, decide_false, Bool.false_eq_true, reduceIte]
  unfold Lib.checkN
  simp only [decide_eq_true_eq, Nat.reduceEqDiff, reduceIte]
  (repeat' split) <;> first | (exfalso; omega) | with_reducible rfl | (simp; done)
 by_cases c3 : b0 < 237
 ·have hk := key 3 128 191 (by simp [Lib.firstT, c, c0, c1, c2, c3]) (by simp [Lib.firstT, Lib.accLo, c, c0, c1, c2, c3]) (by simp [Lib.firstT, Lib.accHi, c, c0, c1, c2, c3])
  have f0 : ((b0 : Int) < 128) = False := eq_false (by omega)
  have f1 : ((b0 : Int) ≥ 194) = True := eq_true (by omega)
  have f2 : ((b0 : Int) < 224) = False := eq_false (by omega)
  have f3 : ((b0 : Int) ≥ 224) = True := eq_true (by omega)
  have f4 : ((b0 : Int) < 240) = True := eq_true (by omega)
  have f5 : ((b0 : Int) = 224) = False := eq_false (by omega)
  have f6 : ((b0 : Int) = 237) = False := eq_false (by omega)
  have f7 : ((b0 : Int) ≥ 240) = False := eq_false (by omega)
  have f8 : ((b0 : Int) < 245) = True := eq_true (by omega)
  have f9 : ((b0 : Int) = 240) = False := eq_false (by omega)
  have f10 : ((b0 : Int) = 244) = False := eq_false (by omega)
  rw [hk]
  clear hk key
  simp only [f0, f1, f2, f3, f4, f5, f6, f7, f8, f9, f10, if_true, if_false, decide_true, decide_false, Bool.false_eq_true, reduceIte]
  unfold Lib.checkN
  simp only [decide_eq_true_eq, Nat.reduceEqDiff, reduceIte]
  (repeat' split) <;> first | (exfalso; omega) | with_reducible rfl | (simp; done)
 by_cases c4 : b0 = 237
 ·have hk := key 3 128 159 (by simp [Lib.firstT, c, c0, c1, c2, c3, c4]) (by simp [Lib.firstT, Lib.accLo, c, c0, c1, c2, c3, c4]) (by simp [Lib.firstT, Lib.accHi, c, c0, c1, c2, c3, c4])
  have f0 : ((b0 : Int) < 128) = False := eq_false (by omega)
  have f1 : ((b0 : Int) ≥ 194) = True := eq_true (by omega)
  have f2 : ((b0 : Int) < 224) = False := eq_false (by omega)
  have f3 : ((b0 : Int) ≥ 224) = True := eq_true (by omega)
  have f4 : ((b0 : Int) < 240) = True := eq_true (by omega)
  have f5 : ((b0 : Int) = 224) = False := eq_false (by omega)
  have f6 : ((b0 : Int) = 237) = True := eq_true (by omega)
  have f7 : ((b0 : Int) ≥ 240) = False := eq_false (by omega)
  have f8 : ((b0 : Int) < 245) = True := eq_true (by omega)
  have f9 : ((b0 : Int) = 240) = False := eq_false (by omega)
  have f10 : ((b0 : Int) = 244) = False := eq_false (by omega)
  rw [hk]
  clear hk key
  simp only [f0, f1, f2, f3, f4, f5, f6, f7, f8, f9, f10, if_true, if_false, decide_true, decide_false, Bool.false_eq_true, reduceIte]
  unfold Lib.checkN
  simp only [decide_eq_true_eq, Nat.reduceEqDiff, reduceIte]
  (repeat' split) <;> first | (exfalso; omega) | with_reducible rfl | (simp; done)
 by_cases c5 : b0 < 240
 ·have hk := key 3 128 191 (by simp [Lib.firstT, c, c0, c1, c2, c3, c4, c5]) (by simp [Lib.firstT, Lib.accLo, c, c0, c1, c2, c3, c4, c5]) (by simp [Lib.firstT, Lib.accHi, c, c0, c1, c2, c3, c4, c5])
  have f0 : ((b0 : Int) < 128) = False := eq_false (by omega)
  have f1 : ((b0 : Int) ≥ 194) = True := eq_true (by omega)
  have f2 : ((b0 : Int) < 224) = False := eq_false (by omega)
  have f3 : ((b0 : Int) ≥ 224) = True := eq_true (by omega)
  have f4 : ((b0 : Int) < 240) = True := eq_true (by omega)
  have f5 : ((b0 : Int) = 224) = False := eq_false (by omega)
  have f6 : ((b0 : Int) = 237) = False := eq_false (by omega)
  have f7 : ((b0 : Int) ≥ 240) = False := eq_false (by omega)
  have f8 : ((b0 : Int) < 245) = True := eq_true (by omega)
  have f9 : ((b0 : Int) = 240) = False := eq_false (by omega)
  have f10 : ((b0 : Int) = 244) = False := eq_false (by omega)
  rw [hk]
  clear hk key
  simp only [f0, f1, f2, f3, f4, f5, f6, f7, f8, f9, f10, if_true, if_false, decide_true, decide_false, Bool.false_eq_true, reduceIte]
  unfold Lib.checkN
  simp only [decide_eq_true_eq, Nat.reduceEqDiff, reduceIte]
  (repeat' split) <;> first | (exfalso; omega) | with_reducible rfl | (simp; done)
 by_cases c6 : b0 = 240
 ·have hk := key 4 144 191 (by simp [Lib.firstT, c, c0, c1, c2, c3, c4, c5, c6]) (by simp [Lib.firstT, Lib.accLo, c, c0, c1, c2, c3, c4, c5, c6]) (by simp [Lib.firstT, Lib.accHi, c, c0, c1, c2, c3, c4, c5, c6])
  have f0 : ((b0 : Int) < 128) = False := eq_false (by omega)
  have f1 : ((b0 : Int) ≥ 194) = True := eq_true (by omega)
  have f2 : ((b0 : Int) < 224) = False := eq_false (by omega)
  have f3 : ((b0 : Int) ≥ 224) = True := eq_true (by omega)
  have f4 : ((b0 : Int) < 240) = False := eq_false (by omega)
  have f5 : ((b0 : Int) = 224) = False := eq_false (by omega)
  have f6 : ((b0 : Int) = 237) = False := eq_false (by omega)
  have f7 : ((b0 : Int) ≥ 240) = True := eq_true (by omega)
  have f8 : ((b0 : Int) < 245) = True := eq_true (by omega)
  have f9 : ((b0 : Int) = 240) = True := eq_true (by omega)
  have f10 : ((b0 : Int) = 244) = False := eq_false (by omega)
  rw [hk]
  clear hk key
  simp only [f0, f1, f2, f3, f4, f5, f6, f7, f8, f9, f10, if_true, if_false, decide_true, decide_false, Bool.false_eq_true, reduceIte]
  unfold Lib.checkN
  simp only [decide_eq_true_eq, Nat.reduceEqDiff, reduceIte]
  (repeat' split) <;> first | (exfalso; omega) | with_reducible rfl | (simp; done)
 by_cases c7 : b0 < 244
 ·have hk := key 4 128 191 (by simp [Lib.firstT, c, c0, c1, c2, c3, c4, c5, c6, c7]) (by simp [Lib.firstT, Lib.accLo, c, c0, c1, c2, c3, c4, c5, c6, c7]) (by simp [Lib.firstT, Lib.accHi, c, c0, c1, c2, c3, c4, c5, c6, c7])
  have f0 : ((b0 : Int) < 128) = False := eq_false (by omega)
  have f1 : ((b0 : Int) ≥ 194) = True := eq_true (by omega)
  have f2 : ((b0 : Int) < 224) = False := eq_false (by omega)
  have f3 : ((b0 : Int) ≥ 224) = True := eq_true (by omega)
  have f4 : ((b0 : Int) < 240) = False := eq_false (by omega)
  have f5 : ((b0 : Int) = 224) = False := eq_false (by omega)
  have f6 : ((b0 : Int) = 237) = False := eq_false (by omega)
  have f7 : ((b0 : Int) ≥ 240) = True := eq_true (by omega)
  have f8 : ((b0 : Int) < 245) = True := eq_true (by omega)
  have f9 : ((b0 : Int) = 240) = False := eq_false (by omega)
  have f10 : ((b0 : Int) = 244) = False := eq_false (by omega)
  rw [hk]
  clear hk key
  simp only [f0, f1, f2, f3, f4, f5, f6, f7, f8, f9, f10, if_true, if_false, decide_true, decide_false, Bool.false_eq_true, reduceIte]
  unfold Lib.checkN
  simp only [decide_eq_true_eq, Nat.reduceEqDiff, reduceIte]
  (repeat' split) <;> first | (exfalso; omega) | with_reducible rfl | (simp; done)
 by_cases c8 : b0 = 244
 ·have hk := key 4 128 143 (by simp [Lib.firstT, c, c0, c1, c2, c3, c4, c5, c6, c7, c8]) (by simp [Lib.firstT, Lib.accLo, c, c0, c1, c2, c3, c4, c5, c6, c7, c8]) (by simp [Lib.firstT, Lib.accHi, c, c0, c1, c2, c3, c4, c5, c6, c7, c8])
  have f0 : ((b0 : Int) < 128) = False := eq_false (by omega)
  have f1 : ((b0 : Int) ≥ 194) = True := eq_true (by omega)
  have f2 : ((b0 : Int) < 224) = False := eq_false (by omega)
  have f3 : ((b0 : Int) ≥ 224) = True := eq_true (by omega)
  have f4 : ((b0 : Int) < 240) = False := eq_false (by omega)
  have f5 : ((b0 : Int) = 224) = False := eq_false (by omega)
  have f6 : ((b0 : Int) = 237) = False := eq_false (by omega)
  have f7 : ((b0 : Int) ≥ 240) = True := eq_true (by omega)
  have f8 : ((b0 : Int) < 245) = True := eq_true (by omega)
  have f9 : ((b0 : Int) = 240) = False := eq_false (by omega)
  have f10 : ((b0 : Int) = 244) = True := eq_true (by omega)
  rw [hk]
  clear hk key
  simp only [f0, f1, f2, f3, f4, f5, f6, f7, f8, f9, f10, if_true, if_false, decide_true, decide_false, Bool.false_eq_true, reduceIte]
  unfold Lib.checkN
  simp only [decide_eq_true_eq, Nat.reduceEqDiff, reduceIte]
  (repeat' split) <;> first | (exfalso; omega) | with_reducible rfl | (simp; done)
 have hk := key 1 0 0 (by simp [Lib.firstT, c, c0, c1, c2, c3, c4, c5, c6, c7, c8]) (by simp [Lib.firstT, Lib.accLo, c, c0, c1, c2, c3, c4, c5, c6, c7, c8]) (by simp [Lib.firstT, Lib.accHi, c, c0, c1, c2, c3, c4, c5, c6, c7, c8])
 have f0 : ((b0 : Int) < 128) = False := eq_false (by omega)
 have f1 : ((b0 : Int) ≥ 194) = True := eq_true (by omega)
 have f2 : ((b0 : Int) < 224) = False := eq_false (by omega)
 have f3 : ((b0 : Int) ≥ 224) = True := eq_true (by omega)
 have f4 : ((b0 : Int) < 240) = False := eq_false (by omega)
 have f5 : ((b0 : Int) = 224) = False := eq_false (by omega)
 have f6 : ((b0 : Int) = 237) = False := eq_false (by omega)
 have f7 : ((b0 : Int) ≥ 240) = True := eq_true (by omega)
 have f8 : ((b0 : Int) < 245) = False := eq_false (by omega)
 have f9 : ((b0 : Int) = 240) = False := eq_false (by omega)
 have f10 : ((b0 : Int) = 244) = False := eq_false (by omega)
 rw [hk]
 clear hk key
 simp only [f0, f1, f2, f3, f4, f5, f6, f7, f8, f9, f10, if_true, if_false, decide_true, decide_false, Bool.false_eq_true, reduceIte]
 simp [Lib.checkN]

theorem valid_rune (l : List UInt8) (hne : l ≠ []) : Lib.validD l = if runeN l.length (l.getD 0 0).toNat (l.getD 1 0).toNat (l.getD 2 0).toNat (l.getD 3 0).toNat = 0 then false else Lib.validD (l.drop (runeN l.length (l.getD 0 0).toNat (l.getD 1 0).toNat (l.getD 2 0).toNat (l.getD 3 0).toNat)) := by
 by_cases h : (l.getD 0 0).toNat < 128
 ·have e : runeN l.length (l.getD 0 0).toNat (l.getD 1 0).toNat (l.getD 2 0).toNat (l.getD 3 0).toNat = 1 := by unfold runeN; rw [if_pos h]
  rw [e, if_neg (by decide)]
  cases l with
  | nil => exact absurd rfl hne
  | cons b t => exact Lib.validD_cons b t (by simpa using h)
 ·have e : runeN l.length (l.getD 0 0).toNat (l.getD 1 0).toNat (l.getD 2 0).toNat (l.getD 3 0).toNat = (Lib.checkN l.length (l.getD 1 0).toNat (l.getD 2 0).toNat (l.getD 3 0).toNat (Lib.firstT (l.getD 0 0).toNat % 8) (Lib.accLo (Lib.firstT (l.getD 0 0).toNat / 16)) (Lib.accHi (Lib.firstT (l.getD 0 0).toNat / 16))).getD 0 := by unfold runeN; rw [if_neg h]
  rw [e, Lib.validD_lead l hne (by omega)]
  have hk : ∀ k, Lib.checkN l.length (l.getD 1 0).toNat (l.getD 2 0).toNat (l.getD 3 0).toNat (Lib.firstT (l.getD 0 0).toNat % 8) (Lib.accLo (Lib.firstT (l.getD 0 0).toNat / 16)) (Lib.accHi (Lib.firstT (l.getD 0 0).toNat / 16)) = some k → k ≠ 0 := by
   intro k hk
   unfold Lib.checkN at hk
   (repeat' split at hk) <;> first | (cases hk; done) | (injection hk with hk; omega)
  generalize Lib.checkN l.length (l.getD 1 0).toNat (l.getD 2 0).toNat (l.getD 3 0).toNat (Lib.firstT (l.getD 0 0).toNat % 8) (Lib.accLo (Lib.firstT (l.getD 0 0).toNat / 16)) (Lib.accHi (Lib.firstT (l.getD 0 0).toNat / 16)) = o at *
  cases o with
  | none => rfl
  | some k => rw [Option.getD_some, if_neg (hk k rfl)]
theorem runeN_le (m b0 b1 b2 b3 : Nat) (hm : 1 ≤ m) : runeN m b0 b1 b2 b3 ≤ m := by
 unfold runeN
 split
 ·exact hm
 ·unfold Lib.checkN
  (repeat' split) <;> first | (simp; done) | (simp only [Option.getD_some]; omega)
theorem getD_drop (s : List UInt8) (i j : Nat) : (s.drop i).getD j 0 = s.getD (i + j) 0 := by simp [List.getD, List.getElem?_drop]
theorem isText_l0 (s : List UInt8) (hs : s.length ≤ 1000000) : ∀ (n i k : Nat), s.length - i ≤ n → i ≤ s.length → n + 10 ≤ k → soundingsref01_IsText.l0 k (bs s) (i : Int) = some (Lib.validD (s.drop i))
 | n, i, k, hn, hi, hk => by
  obtain ⟨k, rfl⟩ : ∃ m, k = m + 1 := ⟨k - 1, by omega⟩
  rw [soundingsref01_IsText.l0, bs_size]
  by_cases h : i < s.length
  ·rw [if_pos (by omega), rune_some s i h hs k (by omega), Option.bind_some]
   have hv := valid_rune (s.drop i) (by intro e; have := congrArg List.length e; simp at this; omega)
   simp only [getD_drop, List.length_drop, Nat.add_zero] at hv
   have hle := runeN_le (s.length - i) (s.getD i 0).toNat (s.getD (i + 1) 0).toNat (s.getD (i + 2) 0).toNat (s.getD (i + 3) 0).toNat (by omega)
   generalize runeN (s.length - i) (s.getD i 0).toNat (s.getD (i + 1) 0).toNat (s.getD (i + 2) 0).toNat (s.getD (i + 3) 0).toNat = r at *
   rw [hv]
   by_cases h0 : r = 0
   ·rw [if_pos (by omega), if_pos h0]
   ·have hw : wrap64 ((i : Int) + (r : Int)) = ((i + r : Nat) : Int) := by unfold wrap64; omega
    rw [if_neg (by omega), if_neg h0, hw, List.drop_drop]
    match n, hn with
    | 0, hn => omega
    | n + 1, hn => exact isText_l0 s hs n (i + r) k (by omega) (by omega) (by omega)
  ·rw [if_neg (by omega), List.drop_eq_nil_of_le (by omega)]
   rfl
theorem isValue_some (l : List UInt8) (hs : l.length ≤ 1000000) (k : Nat) (hk : l.length + 10 ≤ k) : soundingsref01_IsValue.f k (bs l) = some (valueB (bs l)) := by
 unfold soundingsref01_IsValue.f valueB
 rw [bs_size]
 by_cases h : l.length ≤ 200
 ·have ht := isText_l0 l hs l.length 0 k (by omega) (by omega) hk
  have e0 : ((0 : Nat) : Int) = 0 := rfl
  rw [e0] at ht
  rw [if_pos (by omega)]
  unfold soundingsref01_IsText.f
  rw [ht, decide_eq_true h]
  rfl
 ·rw [if_neg (by omega), decide_eq_false h]
  rfl
end Go.Proofs.YtfbockgjhbfidaaGreatDoor.Pr
