/- Texts of this session, cut down to what one claim needs and joined: LexIs, LexRq, FfRPlain2. -/
import Derived.Test.YtjleceekccehoaaGreatDoorVGJ17
import Derived.Test.YtjleceekccehoaaGreatDoorVGJ15
import Derived.Lib.ValidLaws
import Derived.Test.YtjleceekccehoaaGreatDoorVGPr
import Derived.Test.YtjleceekccehoaaGreatDoorVGJ19
section
set_option linter.unusedVariables false
set_option linter.unusedSimpArgs false
namespace Go.Proofs.YtjleceekccehoaaGreatDoor.Pr
open Go.RowKit Go.Proofs.YtjleceekccehoaaGreatDoorW.PrintWords

theorem getD_at (l : List UInt8) (i : Nat) (h : i < l.length) : l.getD i 0 = l[i] := by simp [List.getD, h]
theorem in_some (l : List UInt8) (i : Nat) (lo hi : Int) : soundingsref01_in.f (bs l) (i : Int) lo hi = some (decide (i < l.length ∧ lo ≤ ((l.getD i 0).toNat : Int) ∧ ((l.getD i 0).toNat : Int) ≤ hi)) := by
 unfold soundingsref01_in.f
 rw [bs_size]
 by_cases h : i < l.length
 ·rw [if_pos (by omega), if_pos (by omega), bs_at l i h, getD_at l i h]
  by_cases h2 : ((l[i]).toNat : Int) ≥ lo
  ·rw [if_pos h2]
   congr 1
   apply decide_eq_decide.mpr
   constructor
   ·intro h3; exact ⟨h, h2, h3⟩
   ·intro h3; exact h3.2.2
  ·rw [if_neg h2, decide_eq_false (fun h3 => h2 h3.2.1)]
 ·rw [if_neg (by omega), decide_eq_false (fun h3 => h h3.1)]
def runeN (m b0 b1 b2 b3 : Nat) : Nat := if b0 < 128 then 1 else (Lib.checkN m b1 b2 b3 (Lib.firstT b0 % 8) (Lib.accLo (Lib.firstT b0 / 16)) (Lib.accHi (Lib.firstT b0 / 16))).getD 0
set_option maxHeartbeats 4000000 in
theorem rune_some (s : List UInt8) (i : Nat) (hi : i < s.length) (hs : s.length ≤ 1000000) (k : Nat) (hk : 8 ≤ k) :
  soundingsref01_Rune.f k (bs s) (i : Int) = some ((runeN (s.length - i) (s.getD i 0).toNat (s.getD (i + 1) 0).toNat (s.getD (i + 2) 0).toNat (s.getD (i + 3) 0).toNat : Nat) : Int) := by
 obtain ⟨k, rfl⟩ : ∃ m, k = m + 8 := ⟨k - 8, by omega⟩
 have w1 : wrap64 ((i : Int) + 1) = ((i + 1 : Nat) : Int) := by unfold wrap64; omega
 have w2 : wrap64 ((i : Int) + 2) = ((i + 2 : Nat) : Int) := by unfold wrap64; omega
 have w3 : wrap64 ((i : Int) + 3) = ((i + 3 : Nat) : Int) := by unfold wrap64; omega
 simp only [soundingsref01_Rune.f, soundingsref01_Rune.j0, soundingsref01_Rune.j1, soundingsref01_Rune.j2, soundingsref01_Rune.j3, soundingsref01_Rune.j4, soundingsref01_Rune.j5, soundingsref01_Rune.j6, w1, w2, w3, in_some, Option.bind_some, bs_size]
 rw [bs_at s i hi, ← getD_at s i hi]
 have hb0 := (s.getD i 0).toNat_lt
 generalize (s.getD i 0).toNat = b0 at *
 generalize (s.getD (i + 1) 0).toNat = b1 at *
 generalize (s.getD (i + 2) 0).toNat = b2 at *
 generalize (s.getD (i + 3) 0).toNat = b3 at *
 obtain ⟨m, hm⟩ : ∃ m, s.length - i = m := ⟨_, rfl⟩
 have i1 : (i + 1 < s.length) = (2 ≤ m) := by rw [eq_iff_iff]; omega
 have i2 : (i + 2 < s.length) = (3 ≤ m) := by rw [eq_iff_iff]; omega
 have i3 : (i + 3 < s.length) = (4 ≤ m) := by rw [eq_iff_iff]; omega
 rw [hm]
 simp only [i1, i2, i3]
 have hi0 : (0 : Int) ≤ (i : Int) := by omega
 have hi1 : (i : Int) < (s.length : Int) := by omega
 rw [if_pos hi0, if_pos hi1]
 clear w1 w2 w3 i1 i2 i3 hm hi0 hi1 hi hs
 by_cases c : b0 < 128
 ·rw [if_pos (by omega)]
  unfold runeN
  rw [if_pos c]
  rfl
 have key : ∀ sz lo hi, Lib.firstT b0 % 8 = sz → Lib.accLo (Lib.firstT b0 / 16) = lo → Lib.accHi (Lib.firstT b0 / 16) = hi → runeN m b0 b1 b2 b3 = (Lib.checkN m b1 b2 b3 sz lo hi).getD 0 := fun sz lo hi e1 e2 e3 => by
  unfold runeN
  rw [if_neg c, e1, e2, e3]
 have fin : ∀ sz lo hi, runeN m b0 b1 b2 b3 = (Lib.checkN m b1 b2 b3 sz lo hi).getD 0 → True := fun _ _ _ _ => trivial
 by_cases c0 : b0 < 194
 ·have hk := key 1 0 0 (by simp [Lib.firstT, c, c0]) (by simp [Lib.firstT, Lib.accLo, c, c0]) (by simp [Lib.firstT, Lib.accHi, c, c0])
  have f0 : ((b0 : Int) < 128) = False := eq_false (by omega)
  have f1 : ((b0 : Int) ≥ 194) = False := eq_false (by omega)
  have f2 : ((b0 : Int) < 224) = True := eq_true (by omega)
  have f3 : ((b0 : Int) ≥ 224) = False := eq_false (by omega)
  have f4 : ((b0 : Int) < 240) = True := eq_true (by omega)
  have f5 : ((b0 : Int) = 224) = False := eq_false (by omega)
  have f6 : ((b0 : Int) = 237) = False := eq_false (by omega)
  have f7 : ((b0 : Int) ≥ 240) = False := eq_false (by omega)
  have f8 : ((b0 : Int) < 245) = True := eq_true (by omega)
  have f9 : ((b0 : Int) = 240) = False := eq_false (by omega)
  have f10 : ((b0 : Int) = 244) = False := eq_false (by omega)
  rw [hk]
  clear hk key
  simp only [f0, f1, f2, f3, f4, f5, f6, f7, f8, f9, f10, if_true, if_false, decide_true, decide_false, Bool.false_eq_true, reduceIte]
  simp [Lib.checkN]
 by_cases c1 : b0 < 224
 ·have hk := key 2 128 191 (by simp [Lib.firstT, c, c0, c1]) (by simp [Lib.firstT, Lib.accLo, c, c0, c1]) (by simp [Lib.firstT, Lib.accHi, c, c0, c1])
  have f0 : ((b0 : Int) < 128) = False := eq_false (by omega)
  have f1 : ((b0 : Int) ≥ 194) = True := eq_true (by omega)
  have f2 : ((b0 : Int) < 224) = True := eq_true (by omega)
  have f3 : ((b0 : Int) ≥ 224) = False := eq_false (by omega)
  have f4 : ((b0 : Int) < 240) = True := eq_true (by omega)
  have f5 : ((b0 : Int) = 224) = False := eq_false (by omega)
  have f6 : ((b0 : Int) = 237) = False := eq_false (by omega)
  have f7 : ((b0 : Int) ≥ 240) = False := eq_false (by omega)
  have f8 : ((b0 : Int) < 245) = True := eq_true (by omega)
  have f9 : ((b0 : Int) = 240) = False := eq_false (by omega)
  have f10 : ((b0 : Int) = 244) = False := eq_false (by omega)
  rw [hk]
  clear hk key
  simp only [f0, f1, f2, f3, f4, f5, f6, f7, f8, f9, f10, if_true, if_false, decide_true, decide_false, Bool.false_eq_true, reduceIte]
  unfold Lib.checkN
  simp only [decide_eq_true_eq, Nat.reduceEqDiff, reduceIte]
  (repeat' split) <;> first | (exfalso; omega) | with_reducible rfl | (simp; done)
 by_cases c2 : b0 = 224
 ·have hk := key 3 160 191 (by simp [Lib.firstT, c, c0, c1, c2]) (by simp [Lib.firstT, Lib.accLo, c, c0, c1, c2]) (by simp [Lib.firstT, Lib.accHi, c, c0, c1, c2])
  have f0 : ((b0 : Int) < 128) = False := eq_false (by omega)
  have f1 : ((b0 : Int) ≥ 194) = True := eq_true (by omega)
  have f2 : ((b0 : Int) < 224) = False := eq_false (by omega)
  have f3 : ((b0 : Int) ≥ 224) = True := eq_true (by omega)
  have f4 : ((b0 : Int) < 240) = True := eq_true (by omega)
  have f5 : ((b0 : Int) = 224) = True := eq_true (by omega)
  have f6 : ((b0 : Int) = 237) = False := eq_false (by omega)
  have f7 : ((b0 : Int) ≥ 240) = False := eq_false (by omega)
  have f8 : ((b0 : Int) < 245) = True := eq_true (by omega)
  have f9 : ((b0 : Int) = 240) = False := eq_false (by omega)
  have f10 : ((b0 : Int) = 244) = False := eq_false (by omega)
  rw [hk]
  clear hk key
  simp only [f0, f1, f2, f3, f4, f5, f6, f7, f8, f9, f10, if_true, if_false, decide_true, decide_false, Bool.false_eq_true, reduceIte]
  unfold Lib.checkN
  simp only [decide_eq_true_eq, Nat.reduceEqDiff, reduceIte]
  (repeat' split) <;> first | (exfalso; omega) | with_reducible rfl | (simp; done)
 by_cases c3 : b0 < 237
 ·have hk := key 3 128 191 (by simp [Lib.firstT, c, c0, c1, c2, c3]) (by simp [Lib.firstT, Lib.accLo, c, c0, c1, c2, c3]) (by simp [Lib.firstT, Lib.accHi, c, c0, c1, c2, c3])
  have f0 : ((b0 : Int) < 128) = False := eq_false (by omega)
  have f1 : ((b0 : Int) ≥ 194) = True := eq_true (by omega)
  have f2 : ((b0 : Int) < 224) = False := eq_false (by omega)
  have f3 : ((b0 : Int) ≥ 224) = True := eq_true (by omega)
  have f4 : ((b0 : Int) < 240) = True := eq_true (by omega)
  have f5 : ((b0 : Int) = 224) = False := eq_false (by omega)
  have f6 : ((b0 : Int) = 237) = False := eq_false (by omega)
  have f7 : ((b0 : Int) ≥ 240) = False := eq_false (by omega)
  have f8 : ((b0 : Int) < 245) = True := eq_true (by omega)
  have f9 : ((b0 : Int) = 240) = False := eq_false (by omega)
  have f10 : ((b0 : Int) = 244) = False := eq_false (by omega)
  rw [hk]
  clear hk key
  simp only [f0, f1, f2, f3, f4, f5, f6, f7, f8, f9, f10, if_true, if_false, decide_true, decide_false, Bool.false_eq_true, reduceIte]
  unfold Lib.checkN
  simp only [decide_eq_true_eq, Nat.reduceEqDiff, reduceIte]
  (repeat' split) <;> first | (exfalso; omega) | with_reducible rfl | (simp; done)
 by_cases c4 : b0 = 237
 ·have hk := key 3 128 159 (by simp [Lib.firstT, c, c0, c1, c2, c3, c4]) (by simp [Lib.firstT, Lib.accLo, c, c0, c1, c2, c3, c4]) (by simp [Lib.firstT, Lib.accHi, c, c0, c1, c2, c3, c4])
  have f0 : ((b0 : Int) < 128) = False := eq_false (by omega)
  have f1 : ((b0 : Int) ≥ 194) = True := eq_true (by omega)
  have f2 : ((b0 : Int) < 224) = False := eq_false (by omega)
  have f3 : ((b0 : Int) ≥ 224) = True := eq_true (by omega)
  have f4 : ((b0 : Int) < 240) = True := eq_true (by omega)
  have f5 : ((b0 : Int) = 224) = False := eq_false (by omega)
  have f6 : ((b0 : Int) = 237) = True := eq_true (by omega)
  have f7 : ((b0 : Int) ≥ 240) = False := eq_false (by omega)
  have f8 : ((b0 : Int) < 245) = True := eq_true (by omega)
  have f9 : ((b0 : Int) = 240) = False := eq_false (by omega)
  have f10 : ((b0 : Int) = 244) = False := eq_false (by omega)
  rw [hk]
  clear hk key
  simp only [f0, f1, f2, f3, f4, f5, f6, f7, f8, f9, f10, if_true, if_false, decide_true, decide_false, Bool.false_eq_true, reduceIte]
  unfold Lib.checkN
  simp only [decide_eq_true_eq, Nat.reduceEqDiff, reduceIte]
  (repeat' split) <;> first | (exfalso; omega) | with_reducible rfl | (simp; done)
 by_cases c5 : b0 < 240
 ·have hk := key 3 128 191 (by simp [Lib.firstT, c, c0, c1, c2, c3, c4, c5]) (by simp [Lib.firstT, Lib.accLo, c, c0, c1, c2, c3, c4, c5]) (by simp [Lib.firstT, Lib.accHi, c, c0, c1, c2, c3, c4, c5])
  have f0 : ((b0 : Int) < 128) = False := eq_false (by omega)
  have f1 : ((b0 : Int) ≥ 194) = True := eq_true (by omega)
  have f2 : ((b0 : Int) < 224) = False := eq_false (by omega)
  have f3 : ((b0 : Int) ≥ 224) = True := eq_true (by omega)
  have f4 : ((b0 : Int) < 240) = True := eq_true (by omega)
  have f5 : ((b0 : Int) = 224) = False := eq_false (by omega)
  have f6 : ((b0 : Int) = 237) = False := eq_false (by omega)
  have f7 : ((b0 : Int) ≥ 240) = False := eq_false (by omega)
  have f8 : ((b0 : Int) < 245) = True := eq_true (by omega)
  have f9 : ((b0 : Int) = 240) = False := eq_false (by omega)
  have f10 : ((b0 : Int) = 244) = False := eq_false (by omega)
  rw [hk]
  clear hk key
  simp only [f0, f1, f2, f3, f4, f5, f6, f7, f8, f9, f10, if_true, if_false, decide_true, decide_false, Bool.false_eq_true, reduceIte]
  unfold Lib.checkN
  simp only [decide_eq_true_eq, Nat.reduceEqDiff, reduceIte]
  (repeat' split) <;> first | (exfalso; omega) | with_reducible rfl | (simp; done)
 by_cases c6 : b0 = 240
 ·have hk := key 4 144 191 (by simp [Lib.firstT, c, c0, c1, c2, c3, c4, c5, c6]) (by simp [Lib.firstT, Lib.accLo, c, c0, c1, c2, c3, c4, c5, c6]) (by simp [Lib.firstT, Lib.accHi, c, c0, c1, c2, c3, c4, c5, c6])
  have f0 : ((b0 : Int) < 128) = False := eq_false (by omega)
  have f1 : ((b0 : Int) ≥ 194) = True := eq_true (by omega)
  have f2 : ((b0 : Int) < 224) = False := eq_false (by omega)
  have f3 : ((b0 : Int) ≥ 224) = True := eq_true (by omega)
  have f4 : ((b0 : Int) < 240) = False := eq_false (by omega)
  have f5 : ((b0 : Int) = 224) = False := eq_false (by omega)
  have f6 : ((b0 : Int) = 237) = False := eq_false (by omega)
  have f7 : ((b0 : Int) ≥ 240) = True := eq_true (by omega)
  have f8 : ((b0 : Int) < 245) = True := eq_true (by omega)
  have f9 : ((b0 : Int) = 240) = True := eq_true (by omega)
  have f10 : ((b0 : Int) = 244) = False := eq_false (by omega)
  rw [hk]
  clear hk key
  simp only [f0, f1, f2, f3, f4, f5, f6, f7, f8, f9, f10, if_true, if_false, decide_true, decide_false, Bool.false_eq_true, reduceIte]
  unfold Lib.checkN
  simp only [decide_eq_true_eq, Nat.reduceEqDiff, reduceIte]
  (repeat' split) <;> first | (exfalso; omega) | with_reducible rfl | (simp; done)
 by_cases c7 : b0 < 244
 ·have hk := key 4 128 191 (by simp [Lib.firstT, c, c0, c1, c2, c3, c4, c5, c6, c7]) (by simp [Lib.firstT, Lib.accLo, c, c0, c1, c2, c3, c4, c5, c6, c7]) (by simp [Lib.firstT, Lib.accHi, c, c0, c1, c2, c3, c4, c5, c6, c7])
  have f0 : ((b0 : Int) < 128) = False := eq_false (by omega)
  have f1 : ((b0 : Int) ≥ 194) = True := eq_true (by omega)
  have f2 : ((b0 : Int) < 224) = False := eq_false (by omega)
  have f3 : ((b0 : Int) ≥ 224) = True := eq_true (by omega)
  have f4 : ((b0 : Int) < 240) = False := eq_false (by omega)
  have f5 : ((b0 : Int) = 224) = False := eq_false (by omega)
  have f6 : ((b0 : Int) = 237) = False := eq_false (by omega)
  have f7 : ((b0 : Int) ≥ 240) = True := eq_true (by omega)
  have f8 : ((b0 : Int) < 245) = True := eq_true (by omega)
  have f9 : ((b0 : Int) = 240) = False := eq_false (by omega)
  have f10 : ((b0 : Int) = 244) = False := eq_false (by omega)
  rw [hk]
  clear hk key
  simp only [f0, f1, f2, f3, f4, f5, f6, f7, f8, f9, f10, if_true, if_false, decide_true, decide_false, Bool.false_eq_true, reduceIte]
  unfold Lib.checkN
  simp only [decide_eq_true_eq, Nat.reduceEqDiff, reduceIte]
  (repeat' split) <;> first | (exfalso; omega) | with_reducible rfl | (simp; done)
 by_cases c8 : b0 = 244
 ·have hk := key 4 128 143 (by simp [Lib.firstT, c, c0, c1, c2, c3, c4, c5, c6, c7, c8]) (by simp [Lib.firstT, Lib.accLo, c, c0, c1, c2, c3, c4, c5, c6, c7, c8]) (by simp [Lib.firstT, Lib.accHi, c, c0, c1, c2, c3, c4, c5, c6, c7, c8])
  have f0 : ((b0 : Int) < 128) = False := eq_false (by omega)
  have f1 : ((b0 : Int) ≥ 194) = True := eq_true (by omega)
  have f2 : ((b0 : Int) < 224) = False := eq_false (by omega)
  have f3 : ((b0 : Int) ≥ 224) = True := eq_true (by omega)
  have f4 : ((b0 : Int) < 240) = False := eq_false (by omega)
  have f5 : ((b0 : Int) = 224) = False := eq_false (by omega)
  have f6 : ((b0 : Int) = 237) = False := eq_false (by omega)
  have f7 : ((b0 : Int) ≥ 240) = True := eq_true (by omega)
  have f8 : ((b0 : Int) < 245) = True := eq_true (by omega)
  have f9 : ((b0 : Int) = 240) = False := eq_false (by omega)
  have f10 : ((b0 : Int) = 244) = True := eq_true (by omega)
  rw [hk]
  clear hk key
  simp only [f0, f1, f2, f3, f4, f5, f6, f7, f8, f9, f10, if_true, if_false, decide_true, decide_false, Bool.false_eq_true, reduceIte]
  unfold Lib.checkN
  simp only [decide_eq_true_eq, Nat.reduceEqDiff, reduceIte]
  (repeat' split) <;> first | (exfalso; omega) | with_reducible rfl | (simp; done)
 have hk := key 1 0 0 (by simp [Lib.firstT, c, c0, c1, c2, c3, c4, c5, c6, c7, c8]) (by simp [Lib.firstT, Lib.accLo, c, c0, c1, c2, c3, c4, c5, c6, c7, c8]) (by simp [Lib.firstT, Lib.accHi, c, c0, c1, c2, c3, c4, c5, c6, c7, c8])
 have f0 : ((b0 : Int) < 128) = False := eq_false (by omega)
 have f1 : ((b0 : Int) ≥ 194) = True := eq_true (by omega)
 have f2 : ((b0 : Int) < 224) = False := eq_false (by omega)
 have f3 : ((b0 : Int) ≥ 224) = True := eq_true (by omega)
 have f4 : ((b0 : Int) < 240) = False := eq_false (by omega)
 have f5 : ((b0 : Int) = 224) = False := eq_false (by omega)
 have f6 : ((b0 : Int) = 237) = False := eq_false (by omega)
 have f7 : ((b0 : Int) ≥ 240) = True := eq_true (by omega)
 have f8 : ((b0 : Int) < 245) = False := eq_false (by omega)
 have f9 : ((b0 : Int) = 240) = False := eq_false (by omega)
 have f10 : ((b0 : Int) = 244) = False := eq_false (by omega)
 rw [hk]
 clear hk key
 simp only [f0, f1, f2, f3, f4, f5, f6, f7, f8, f9, f10, if_true, if_false, decide_true, decide_false, Bool.false_eq_true, reduceIte]
 simp [Lib.checkN]

theorem valid_rune (l : List UInt8) (hne : l ≠ []) : Lib.validD l = if runeN l.length (l.getD 0 0).toNat (l.getD 1 0).toNat (l.getD 2 0).toNat (l.getD 3 0).toNat = 0 then false else Lib.validD (l.drop (runeN l.length (l.getD 0 0).toNat (l.getD 1 0).toNat (l.getD 2 0).toNat (l.getD 3 0).toNat)) := by
 by_cases h : (l.getD 0 0).toNat < 128
 ·have e : runeN l.length (l.getD 0 0).toNat (l.getD 1 0).toNat (l.getD 2 0).toNat (l.getD 3 0).toNat = 1 := by unfold runeN; rw [if_pos h]
  rw [e, if_neg (by decide)]
  cases l with
  | nil => exact absurd rfl hne
  | cons b t => exact Lib.validD_cons b t (by simpa using h)
 ·have e : runeN l.length (l.getD 0 0).toNat (l.getD 1 0).toNat (l.getD 2 0).toNat (l.getD 3 0).toNat = (Lib.checkN l.length (l.getD 1 0).toNat (l.getD 2 0).toNat (l.getD 3 0).toNat (Lib.firstT (l.getD 0 0).toNat % 8) (Lib.accLo (Lib.firstT (l.getD 0 0).toNat / 16)) (Lib.accHi (Lib.firstT (l.getD 0 0).toNat / 16))).getD 0 := by unfold runeN; rw [if_neg h]
  rw [e, Lib.validD_lead l hne (by omega)]
  have hk : ∀ k, Lib.checkN l.length (l.getD 1 0).toNat (l.getD 2 0).toNat (l.getD 3 0).toNat (Lib.firstT (l.getD 0 0).toNat % 8) (Lib.accLo (Lib.firstT (l.getD 0 0).toNat / 16)) (Lib.accHi (Lib.firstT (l.getD 0 0).toNat / 16)) = some k → k ≠ 0 := by
   intro k hk
   unfold Lib.checkN at hk
   (repeat' split at hk) <;> first | (cases hk; done) | (injection hk with hk; omega)
  generalize Lib.checkN l.length (l.getD 1 0).toNat (l.getD 2 0).toNat (l.getD 3 0).toNat (Lib.firstT (l.getD 0 0).toNat % 8) (Lib.accLo (Lib.firstT (l.getD 0 0).toNat / 16)) (Lib.accHi (Lib.firstT (l.getD 0 0).toNat / 16)) = o at *
  cases o with
  | none => rfl
  | some k => rw [Option.getD_some, if_neg (hk k rfl)]
theorem runeN_le (m b0 b1 b2 b3 : Nat) (hm : 1 ≤ m) : runeN m b0 b1 b2 b3 ≤ m := by
 unfold runeN
 split
 ·exact hm
 ·unfold Lib.checkN
  (repeat' split) <;> first | (simp; done) | (simp only [Option.getD_some]; omega)
theorem getD_drop (s : List UInt8) (i j : Nat) : (s.drop i).getD j 0 = s.getD (i + j) 0 := by simp [List.getD, List.getElem?_drop]
theorem isText_l0 (s : List UInt8) (hs : s.length ≤ 1000000) : ∀ (n i k : Nat), s.length - i ≤ n → i ≤ s.length → n + 10 ≤ k → soundingsref01_IsText.l0 k (bs s) (i : Int) = some (Lib.validD (s.drop i))
 | n, i, k, hn, hi, hk => by
  obtain ⟨k, rfl⟩ : ∃ m, k = m + 1 := ⟨k - 1, by omega⟩
  rw [soundingsref01_IsText.l0, bs_size]
  by_cases h : i < s.length
  ·rw [if_pos (by omega), rune_some s i h hs k (by omega), Option.bind_some]
   have hv := valid_rune (s.drop i) (by intro e; have := congrArg List.length e; simp at this; omega)
   simp only [getD_drop, List.length_drop, Nat.add_zero] at hv
   have hle := runeN_le (s.length - i) (s.getD i 0).toNat (s.getD (i + 1) 0).toNat (s.getD (i + 2) 0).toNat (s.getD (i + 3) 0).toNat (by omega)
   generalize runeN (s.length - i) (s.getD i 0).toNat (s.getD (i + 1) 0).toNat (s.getD (i + 2) 0).toNat (s.getD (i + 3) 0).toNat = r at *
   rw [hv]
   by_cases h0 : r = 0
   ·rw [if_pos (by omega), if_pos h0]
   ·have hw : wrap64 ((i : Int) + (r : Int)) = ((i + r : Nat) : Int) := by unfold wrap64; omega
    rw [if_neg (by omega), if_neg h0, hw, List.drop_drop]
    match n, hn with
    | 0, hn => omega
    | n + 1, hn => exact isText_l0 s hs n (i + r) k (by omega) (by omega) (by omega)
  ·rw [if_neg (by omega), List.drop_eq_nil_of_le (by omega)]
   rfl
end Go.Proofs.YtjleceekccehoaaGreatDoor.Pr
end

section
set_option linter.unusedVariables false
set_option linter.unusedSimpArgs false
namespace Go.Proofs.YtjleceekccehoaaGreatDoor.Pr
open Go.RowKit Go.Proofs.YtjleceekccehoaaGreatDoorW.PrintWords Go.Proofs.YtjleceekccehoaaGreatDoorW.PrintLast Go.Proofs.YtjleceekccehoaaGreatDoorW.PrintMore

/-- What is told: the text, and where it ends in a text of so many bytes. -/
def rqV (n : Nat) : Option (List UInt8 × List UInt8) → List UInt8 × Nat
 | none => ([], 0)
 | some (out, r) => if Lib.validD out = true then (out, n - r.length) else ([], 0)
structure Qr (w0 W : World) (v : Value) (out : List UInt8) : Prop where
 row : Kd.R (Kd.int .u8) 5 W w0.heap.size (fun _ => True) v (zs out)
 bel : Below w0.heap.size w0 W
theorem isText_f (s : List UInt8) (hs : s.length ≤ 1000000) : soundingsref01_IsText.f (s.length + 12) (bs s) = some (Lib.validD s) := by
 have h := isText_l0 s hs s.length 0 (s.length + 12) (by omega) (by omega) (by omega)
 have e0 : ((0 : Nat) : Int) = 0 := rfl
 rw [e0] at h
 unfold soundingsref01_IsText.f
 rw [h]
 rfl
section
variable {w0 W W' : World} {v : Value} {out : List UInt8}
theorem Qr.below (h : Qr w0 W v out) (hb : Below W.heap.size W W') : Qr w0 W' v out := ⟨Kd.R_below h.row hb, below_step h.bel hb⟩
variable {P : Program} {ops : Array Oper} {o : Oper} {a : Act} {Q : Exit → Act → World → Prop} {rest : List Oper}
theorem rapp (hgd : o.guard = none) (s x : Operand) (ho : o.op = .call { callee := .builtin .append, args := #[s, x], argTypes := #[97, 97] })
  (ht : P.underlying 97 = some (.slice 5)) (hinfo : (P.info? 5).map (fun i => (i.zero, i.size, i.bytes)) = some (some (.int .u8 0), 1, 1))
  (c : UInt8) (z : Int) (hz : (c.toNat : Int) = z) (h : Qr w0 W v out) (hs : a.eval s = v) (hx : a.eval x = .slice (some ⟨W.heap.size, 0, none⟩) 1 1) (hl : out.length ≤ 1000000)
  (K : ∀ v1 w1, Qr w0 w1 v1 (out ++ [c]) → wpList P ops Q rest (a.put o.dst v1) w1) : wpList P ops Q (o :: rest) a (W.alloc (.cells #[.int .u8 z] 5)) := by
 subst hz
 refine Kd.R_append (Kd.int .u8) (w0 := w0) w0.heap.size hgd s x 97 5 (.int .u8 0) 1 ho ht hinfo rfl (by decide) (by omega) v (zs out) (c.toNat : Nat) [.int .u8 (c.toNat : Nat)] (fun _ => True) (fun _ => False) hs hx rfl (fun _ hk => hk.elim) (fun _ _ => trivial) h.row h.bel h.bel.size (by simp [zs]; omega) ?_
 intro v1 w1 hr hb hg _
 exact K v1 w1 ⟨by rw [show zs (out ++ [c]) = zs out ++ [((c.toNat : Nat) : Int)] from by simp [zs]]; exact hr, hb⟩
end
set_option maxHeartbeats 8000000 in
set_option maxRecDepth 100000 in
theorem rquoted_any (l : List UInt8) (hl : l.length ≤ 1000000) (i : Nat) (c0 : UInt8) (r0 : List UInt8) (hA : At l i (c0 :: r0)) (w : World) :
  Calls Tryz.prog 55 #[.string (bs l), .int .i64 i] w fun e w' => e = .returned (.tuple #[.string (bs (rqV l.length (quotR r0 [])).1), .int .i64 ((rqV l.length (quotR r0 [])).2 : Nat)]) ∧ Below w.heap.size w w' := by
 have hsz := bs_size l
 have hil := hA.le
 have hlt0 := hA.lt
 have HA1 := Aside0.mk hA.next
 have HQ := Aside0.mk (show Qr w w (.slice none 0 0) [] from ⟨Kd.R_nil _ _ _ _ _, Below.refl _ _⟩)
 obtain ⟨RES, hRES⟩ : ∃ R, rqV l.length (quotR r0 []) = R := ⟨_, rfl⟩
 have HRES := Aside0.mk hRES
 rw [hRES]
 clear hA hRES
 go_enter Tryz.func55, Tryz.ntmps55
 go_wp2_with fail
 go_loopg [6, 7] r0.length (fun q v6 v7 wx => ∃ (j : Nat) (r out : List UInt8), v7 = .int .i64 (j : Int) ∧ q = r.length ∧ j ≤ l.length ∧ out.length ≤ j ∧ Aside0 (At l j r) ∧ Aside0 (quotR r out = quotR r0 []) ∧ Aside0 (Qr w wx v6 out))
 case atStart => exact ⟨i + 1, r0, [], by go_num, rfl, HA1.out.le, by simp, HA1, ⟨rfl⟩, HQ⟩
 case round =>
  clear HQ
  obtain ⟨j, r, out, rfl, hq, hj, ho, HJ, HR, HQ⟩ := hrel
  have HQQ := Aside0.mk hq
  clear hq
  have ho2 : out.length ≤ 1000000 := by omega
  cases r with
  | nil =>
   have hjl := HJ.out.nil
   have t3 : ((j : Int) < (l.length : Int)) = False := eq_false (by omega)
   have HV : Aside0 (RES = ([], 0)) := ⟨by rw [← HRES.out, ← HR.out]; rfl⟩
   clear hjl
   go_wp2_with fail
   go_ret2
   rw [HV.out]
   exact ⟨by first | rfl | simp [bs], HQ.out.bel⟩
  | cons c r =>
   have hlt := HJ.out.lt
   have hbhz := HJ.out.byte
   obtain ⟨z, hzz⟩ : ∃ z, c.toNat = z := ⟨_, rfl⟩
   have HZ := Aside0.mk hzz
   rw [hzz] at hbhz
   have hz : ∀ h : j < (bs l).size, ((bs l)[j]'h).toNat = z := fun h => by
    have h1 := hbhz
    unfold bt at h1
    rw [dif_pos (by simpa using h)] at h1
    simp only [Int.toNat_natCast] at h1
    omega
   have t3 : (j : Int) < (l.length : Int) := by omega
   have t4 : (0 : Int) ≤ (j : Int) := by omega
   clear hbhz hlt hzz
   have hlen := HJ.out.len
   simp only [List.length_cons] at hlen
   by_cases z34 : z = 34
   ·have e34 : ((z : Int) == 34) = true := by rw [beq_iff_eq]; omega
    have HV0 : Aside0 (quotR r0 [] = some (out, r)) := ⟨by rw [← HR.out, quotR_cons]; rw [if_pos (by rw [HZ.out]; exact z34)]⟩
    clear z34
    obtain ⟨bv, hbv⟩ : ∃ b, Lib.validD out = b := ⟨_, rfl⟩
    have HBV := Aside0.mk hbv
    have HT : Aside0 (∀ W, Calls Tryz.prog 81 #[.string (bs out)] W fun e w' => e = .returned (.bool bv) ∧ Drawn0 W w') := ⟨fun W => by rw [← hbv]; exact soundingsref01_IsText.calls (out.length + 12) (bs out) _ W (isText_f out ho2)⟩
    have cv := cv_any HQ.out.row
    clear hbv
    cases bv
    ·have HV : Aside0 (RES = ([], 0)) := ⟨by rw [← HRES.out, HV0.out]; show (if Lib.validD out = true then _ else _) = _; rw [HBV.out]; rfl⟩
     go_wp2_with fail
     refine (HT.out _).mono ?_
     rintro e_ w5 ⟨rfl, hd5⟩
     have HQ5 := Aside0.mk (HQ.out.below hd5.below)
     clear hd5 HQ
     have HQ := HQ5
     go_wp2_with fail
     go_ret2
     rw [HV.out]
     exact ⟨by first | rfl | simp [bs], HQ.out.bel⟩
    ·have HV : Aside0 (RES = (out, j + 1)) := ⟨by rw [← HRES.out, HV0.out]; show (if Lib.validD out = true then _ else _) = _; rw [HBV.out, if_pos rfl]; congr 1; omega⟩
     go_wp2_with fail
     refine (HT.out _).mono ?_
     rintro e_ w5 ⟨rfl, hd5⟩
     have HQ5 := Aside0.mk (HQ.out.below hd5.below)
     clear hd5 HQ cv
     have HQ := HQ5
     have cv := cv_any HQ.out.row
     go_wp2_with fail
     go_ret2
     rw [HV.out]
     exact ⟨by first | rfl | simp, HQ.out.bel⟩
   have n34 : ((z : Int) == 34) = false := by rw [beq_eq_false_iff_ne]; omega
   by_cases z10 : z = 10
   ·have e10 : ((z : Int) == 10) = true := by rw [beq_iff_eq]; omega
    have HV : Aside0 (RES = ([], 0)) := ⟨by rw [← HRES.out, ← HR.out, quotR_cons]; rw [if_neg (by rw [HZ.out]; exact z34), if_pos (by rw [HZ.out]; exact z10)]; rfl⟩
    clear z34 z10
    go_wp2_with fail
    go_ret2
    rw [HV.out]
    exact ⟨by first | rfl | simp [bs], HQ.out.bel⟩
   have n10 : ((z : Int) == 10) = false := by rw [beq_eq_false_iff_ne]; omega
   by_cases z92 : z = 92
   ·have e92 : ((z : Int) != 92) = false := by rw [bne_eq_false_iff_eq]; omega
    cases r with
    | nil =>
     have hjl := HJ.out.next.nil
     have HV : Aside0 (RES = ([], 0)) := ⟨by rw [← HRES.out, ← HR.out, quotR_cons]; rw [if_neg (by rw [HZ.out]; exact z34), if_neg (by rw [HZ.out]; exact z10), if_pos (by rw [HZ.out]; exact z92)]; rfl⟩
     have t5 : ((j : Int) + 1 == (l.length : Int)) = true := by rw [beq_iff_eq]; omega
     clear z34 z10 z92 hjl
     go_wp2_with fail
     go_ret2
     rw [HV.out]
     exact ⟨by first | rfl | simp [bs], HQ.out.bel⟩
    | cons d r2 =>
     have hlt1 := HJ.out.next.lt
     have hbhz1 := HJ.out.next.byte
     obtain ⟨z1, hzz1⟩ : ∃ z, d.toNat = z := ⟨_, rfl⟩
     have HZ1 := Aside0.mk hzz1
     rw [hzz1] at hbhz1
     have hz1 : ∀ h : j + 1 < (bs l).size, ((bs l)[j + 1]'h).toNat = z1 := fun h => by
      have h1 := hbhz1
      unfold bt at h1
      rw [dif_pos (by simpa using h)] at h1
      simp only [Int.toNat_natCast] at h1
      omega
     have t5 : ((j : Int) + 1 == (l.length : Int)) = false := by rw [beq_eq_false_iff_ne]; omega
     have t6 : (j : Int) + 1 < (l.length : Int) := by omega
     have t7 : (0 : Int) ≤ (j : Int) + 1 := by omega
     have t8 : ((j : Int) + 1).toNat = j + 1 := by omega
     have HRR : Aside0 (quotR r0 [] = if z1 = 34 ∨ z1 = 92 then quotR r2 (out ++ [d]) else if z1 = 110 then quotR r2 (out ++ [10]) else none) := ⟨by rw [← HR.out, quotR_cons, if_neg (by rw [HZ.out]; exact z34), if_neg (by rw [HZ.out]; exact z10), if_pos (by rw [HZ.out]; exact z92)]; show (if d.toNat = 34 ∨ d.toNat = 92 then _ else if d.toNat = 110 then _ else none) = _; rw [HZ1.out]⟩
     have HJ2 := Aside0.mk HJ.out.next.next
     clear hbhz1 hlt1 hzz1 z34 z10 z92 HR
     have hdz : ((d.toNat : Nat) : Int) = (z1 : Int) := by rw [HZ1.out]
     have HDZ := Aside0.mk hdz
     clear hdz
     by_cases y34 : z1 = 34
     ·have ey34 : ((z1 : Int) == 34) = true := by rw [beq_iff_eq]; omega
      have HR2 : Aside0 (quotR r2 (out ++ [d]) = quotR r0 []) := ⟨by rw [HRR.out, if_pos (by omega)]⟩
      clear y34 HRR
      go_wp2_with ((with_reducible refine gate_builtin (b := .append) (xs := #[.tmp 54, .tmp 58]) rfl ?_); at_builtin; refine rapp rfl (.tmp 54) (.tmp 58) rfl Tryz.underlying97 info5 d (z1 : Int) HDZ.out HQ.out rfl rfl (by omega) ?_; intro v_ w_ hs_)
      go_roundg r2.length
      case measure => have := HQQ.out; simp at this; omega
      case rel => exact ⟨j + 1 + 1, r2, out ++ [d], by go_num, rfl, HJ2.out.le, by simp; omega, HJ2, HR2, ⟨hs_⟩⟩
     have en34 : ((z1 : Int) == 34) = false := by rw [beq_eq_false_iff_ne]; omega
     by_cases y92 : z1 = 92
     ·have ey92 : ((z1 : Int) == 92) = true := by rw [beq_iff_eq]; omega
      have HR2 : Aside0 (quotR r2 (out ++ [d]) = quotR r0 []) := ⟨by rw [HRR.out, if_pos (by omega)]⟩
      clear y34 y92 HRR
      go_wp2_with ((with_reducible refine gate_builtin (b := .append) (xs := #[.tmp 54, .tmp 58]) rfl ?_); at_builtin; refine rapp rfl (.tmp 54) (.tmp 58) rfl Tryz.underlying97 info5 d (z1 : Int) HDZ.out HQ.out rfl rfl (by omega) ?_; intro v_ w_ hs_)
      go_roundg r2.length
      case measure => have := HQQ.out; simp at this; omega
      case rel => exact ⟨j + 1 + 1, r2, out ++ [d], by go_num, rfl, HJ2.out.le, by simp; omega, HJ2, HR2, ⟨hs_⟩⟩
     have en92 : ((z1 : Int) == 92) = false := by rw [beq_eq_false_iff_ne]; omega
     by_cases y110 : z1 = 110
     ·have ey110 : ((z1 : Int) == 110) = true := by rw [beq_iff_eq]; omega
      have HR2 : Aside0 (quotR r2 (out ++ [10]) = quotR r0 []) := ⟨by rw [HRR.out, if_neg (by omega), if_pos y110]⟩
      clear y34 y92 y110 HRR
      go_wp2_with ((with_reducible refine gate_builtin (b := .append) (xs := #[.tmp 62, .tmp 63]) rfl ?_); at_builtin; refine rapp rfl (.tmp 62) (.tmp 63) rfl Tryz.underlying97 info5 10 10 rfl HQ.out rfl rfl (by omega) ?_; intro v_ w_ hs_)
      go_roundg r2.length
      case measure => have := HQQ.out; simp at this; omega
      case rel => exact ⟨j + 1 + 1, r2, out ++ [10], by go_num, rfl, HJ2.out.le, by simp; omega, HJ2, HR2, ⟨hs_⟩⟩
     have en110 : ((z1 : Int) == 110) = false := by rw [beq_eq_false_iff_ne]; omega
     have HV : Aside0 (RES = ([], 0)) := ⟨by rw [← HRES.out, HRR.out, if_neg (by omega), if_neg y110]; rfl⟩
     clear y34 y92 y110 HRR
     go_wp2_with fail
     go_ret2
     rw [HV.out]
     exact ⟨by first | rfl | simp [bs], HQ.out.bel⟩
   have n92 : ((z : Int) != 92) = true := by rw [bne_iff_ne]; omega
   have HR2 : Aside0 (quotR r (out ++ [c]) = quotR r0 []) := ⟨by rw [← HR.out, quotR_cons, if_neg (by rw [HZ.out]; exact z34), if_neg (by rw [HZ.out]; exact z10), if_neg (by rw [HZ.out]; exact z92)]⟩
   have hdz : ((c.toNat : Nat) : Int) = (z : Int) := by rw [HZ.out]
   have HDZ := Aside0.mk hdz
   have HJ2 := Aside0.mk HJ.out.next
   clear z34 z10 z92 HR hdz
   go_wp2_with ((with_reducible refine gate_builtin (b := .append) (xs := #[.tmp 36, .tmp 40]) rfl ?_); at_builtin; refine rapp rfl (.tmp 36) (.tmp 40) rfl Tryz.underlying97 info5 c (z : Int) HDZ.out HQ.out rfl rfl (by omega) ?_; intro v_ w_ hs_)
   go_roundg r.length
   case measure => have := HQQ.out; simp at this; omega
   case rel => exact ⟨j + 1, r, out ++ [c], by go_num, rfl, HJ2.out.le, by simp; omega, HJ2, HR2, ⟨hs_⟩⟩
end Go.Proofs.YtjleceekccehoaaGreatDoor.Pr
end

section
set_option linter.unusedVariables false
set_option linter.unusedSimpArgs false
set_option linter.unusedSectionVars false
namespace Go.Proofs.YtjleceekccehoaaGreatDoor.Pr
open Go.RowKit Go.Proofs.YtjleceekccehoaaGreatDoorW.PrintWords Go.Proofs.YtjleceekccehoaaGreatDoorW.PrintLast Go.Proofs.YtjleceekccehoaaGreatDoorW.PrintMore

theorem u8_beq (c a : UInt8) : (c == a) = ((c.toNat : Int) == (a.toNat : Int)) := by
 rw [Bool.eq_iff_iff, beq_iff_eq, beq_iff_eq]
 constructor
 ·intro h; rw [h]
 ·intro h; exact UInt8.toNat_inj.1 (by omega)
theorem am1 (a c : UInt8) (r : List UInt8) : among [a] (c :: r) = ((c.toNat : Int) == (a.toNat : Int)) := by
 rw [← u8_beq]
 by_cases h : c = a
 ·subst h; simp [among, Lib.indexByte]
 ·have h2 : (a == c) = false := by rw [beq_eq_false_iff_ne]; exact fun e => h e.symm
  have h3 : (c == a) = false := by rw [beq_eq_false_iff_ne]; exact h
  simp [among, Lib.indexByte, h2, h3]
theorem am2 (a b c : UInt8) (r : List UInt8) : among [a, b] (c :: r) = if (c.toNat : Int) = (a.toNat : Int) then true else ((c.toNat : Int) == (b.toNat : Int)) := by
 by_cases h : c = a
 ·subst h; simp [among, Lib.indexByte]
 ·have h2 : (a == c) = false := by rw [beq_eq_false_iff_ne]; exact fun e => h e.symm
  have h4 : ¬ ((c.toNat : Int) = (a.toNat : Int)) := fun e => h (UInt8.toNat_inj.1 (by omega))
  rw [if_neg h4, ← u8_beq]
  by_cases h5 : c = b
  ·subst h5; simp [among, Lib.indexByte, h2]
  ·have h6 : (b == c) = false := by rw [beq_eq_false_iff_ne]; exact fun e => h5 e.symm
   have h7 : (c == b) = false := by rw [beq_eq_false_iff_ne]; exact h5
   simp [among, Lib.indexByte, h2, h6, h7]
theorem At.sgn {l s : List UInt8} {i : Nat} (h : At l i s) (some : List UInt8) : At l (i + if among some s = true then 1 else 0) (dropS some s) := by
 unfold dropS
 cases s with
 | nil => simp [among]; exact h
 | cons c r =>
  by_cases ha : among some (c :: r) = true
  ·rw [if_pos ha, if_pos ha]; exact h.next
  ·rw [if_neg ha, if_neg ha]; exact h
theorem At.fin {l s : List UInt8} {i : Nat} (h : At l i s) : ((i : Int) == (l.length : Int)) = s.isEmpty := by
 have := h.len
 cases s with
 | nil => simp at this; simp [this]
 | cons c r => simp at this; rw [beq_eq_false_iff_ne.2 (by omega)]; rfl
section
variable {l : List UInt8} (hl : l.length ≤ 1000000)
include hl
theorem wr_nat (n : Nat) (x : Int) (e : x = n) (h : n ≤ 4000000) : wrap64 x = (n : Int) := by unfold wrap64; omega
theorem j5_eq (k : Nat) (hk : l.length < k) (i : Nat) (s : List UInt8) (h : At l i s) (n : Int) (hn : n > 0) :
  soundingsref04_Plain.j5 (k + 1) (bs l) i n (among [43, 45] s) = some (if cntD (dropS [43, 45] s) = 0 then false else (dropD (dropS [43, 45] s)).isEmpty) := by
 have hs := bs_size l
 have h6 := h.sgn [43, 45]
 have h7 := h6.skip
 have hc := cntD_bd (dropS [43, 45] s)
 have hl6 := h6.len
 unfold soundingsref04_Plain.j5
 cases ha : among [43, 45] s
 ·rw [ha] at h6 h7
  simp only [Bool.false_eq_true, if_false, Nat.add_zero] at h6 h7 ⊢
  rw [digits_f l hl k i _ h6 hk]
  simp only [Option.bind_some]
  split
  ·rfl
  ·rw [wr_nat hl (i + (cntD (dropS [43, 45] s)).toNat) _ (by omega) (by have := h7.le; omega), hs, h7.fin]
   try simp
 ·rw [ha] at h6 h7
  simp only [if_true] at h6 h7 ⊢
  rw [wr_nat hl (i + 1) _ (by omega) (by have := h6.le; omega), digits_f l hl k (i + 1) _ h6 hk]
  simp only [Option.bind_some]
  split
  ·rfl
  ·rw [wr_nat hl (i + 1 + (cntD (dropS [43, 45] s)).toNat) _ (by omega) (by have := h7.le; omega), hs, h7.fin]
   try simp [hn]
theorem j4_eq (k : Nat) (hk : l.length < k) (i : Nat) (s : List UInt8) (h : At l i s) (n : Int) (hn : n > 0) :
  soundingsref04_Plain.j4 (k + 2) (bs l) i n (among [101, 69] s) = some (if among [101, 69] s = true then (if cntD (dropS [43, 45] (dropS [101, 69] s)) = 0 then false else (dropD (dropS [43, 45] (dropS [101, 69] s))).isEmpty) else s.isEmpty) := by
 have hs := bs_size l
 have h5 := h.sgn [101, 69]
 rw [show k + 2 = (k + 1) + 1 from rfl, soundingsref04_Plain.j4]
 cases ha : among [101, 69] s
 ·simp only [Bool.false_eq_true, if_false]
  rw [if_pos hn, hs, h.fin]
 ·rw [ha] at h5
  simp only [if_true] at h5 ⊢
  rw [wr_nat hl (i + 1) _ (by omega) (by have := h5.le; omega)]
  have hj := j5_eq hl k hk (i + 1) _ h5 n hn
  generalize dropS [101, 69] s = s5 at h5 hj ⊢
  cases s5 with
  | nil =>
   have := h5.nil
   rw [if_neg (by omega)]
   exact hj
  | cons c r =>
   have := h5.lt
   rw [if_pos (by omega), if_pos (by omega), h5.byte]
   have e2 : among [43, 45] (c :: r) = if (c.toNat : Int) = 43 then true else ((c.toNat : Int) == 45) := am2 43 45 c r
   split
   ·rename_i hc; rw [e2, if_pos hc] at hj; exact hj
   ·rename_i hc; rw [e2, if_neg hc] at hj; exact hj
theorem j3_eq (k : Nat) (hk : l.length < k) (i : Nat) (s : List UInt8) (h : At l i s) (n : Int) (hn : 0 ≤ n) :
  soundingsref04_Plain.j3 (k + 3) (bs l) i n = some (if n = 0 then false else if among [101, 69] s = true then (if cntD (dropS [43, 45] (dropS [101, 69] s)) = 0 then false else (dropD (dropS [43, 45] (dropS [101, 69] s))).isEmpty) else s.isEmpty) := by
 have hs := bs_size l
 rw [show k + 3 = (k + 2) + 1 from rfl, soundingsref04_Plain.j3]
 by_cases h0 : n = 0
 ·subst h0
  rw [if_neg (by omega)]
  rw [show k + 2 = (k + 1) + 1 from rfl, soundingsref04_Plain.j4]
  simp
 ·rw [if_pos (by omega), if_neg h0]
  have hj := j4_eq hl k hk i s h n (by omega)
  cases s with
  | nil =>
   have := h.nil
   rw [if_neg (by omega)]
   exact hj
  | cons c r =>
   have := h.lt
   rw [if_pos (by omega), if_pos (by omega), h.byte]
   have e2 : among [101, 69] (c :: r) = if (c.toNat : Int) = 101 then true else ((c.toNat : Int) == 69) := am2 101 69 c r
   split
   ·rename_i hc; rw [if_pos hc] at e2; rw [e2] at hj ⊢; exact hj
   ·rename_i hc; rw [if_neg hc] at e2; rw [e2] at hj ⊢; exact hj
theorem j2_eq (k : Nat) (hk : l.length < k) (i : Nat) (s : List UInt8) (h : At l i s) (n : Int) (hn : 0 ≤ n) (hn2 : n ≤ 1000000) :
  soundingsref04_Plain.j2 (k + 4) (bs l) i n (among [46] s) = soundingsref04_Plain.j3 (k + 3) (bs l) (((i + if among [46] s = true then 1 else 0) + if among [46] s = true then (cntD (dropS [46] s)).toNat else 0 : Nat) : Int) (if among [46] s = true then n + cntD (dropS [46] s) else n) := by
 have h3 := h.sgn [46]
 have hc := cntD_bd (dropS [46] s)
 rw [show k + 4 = (k + 3) + 1 from rfl, soundingsref04_Plain.j2]
 cases ha : among [46] s
 ·simp
 ·rw [ha] at h3
  simp only [if_true] at h3 ⊢
  have hl3 := h3.len
  rw [wr_nat hl (i + 1) _ (by omega) (by have := h3.le; omega), digits_f l hl (k + 3) (i + 1) _ h3 (by omega)]
  simp only [Option.bind_some]
  rw [wr_nat hl (i + 1 + (cntD (dropS [46] s)).toNat) _ (by omega) (by omega)]
  have : wrap64 (n + cntD (dropS [46] s)) = n + cntD (dropS [46] s) := by unfold wrap64; omega
  rw [this]
theorem j1_eq (k : Nat) (hk : l.length < k) (i : Nat) (h : At l i (pl1 l)) : soundingsref04_Plain.j1 (k + 5) (bs l) i = some (plainV l) := by
 have hs := bs_size l
 have hc := cntD_bd (pl1 l)
 have h2 := h.skip
 have hl1 := h.len
 rw [show k + 5 = (k + 4) + 1 from rfl, soundingsref04_Plain.j1]
 rw [digits_f l hl (k + 4) i _ h (by omega)]
 simp only [Option.bind_some]
 rw [wr_nat hl (i + (cntD (pl1 l)).toNat) _ (by omega) (by omega)]
 have hj2 := j2_eq hl k hk _ _ h2 (cntD (pl1 l)) hc.1 (by omega)
 have h3 := h2.sgn [46]
 have key : soundingsref04_Plain.j2 (k + 4) (bs l) ((i + (cntD (pl1 l)).toNat : Nat) : Int) (cntD (pl1 l)) (among [46] (pl2 l)) = some (plainV l) := by
  show soundingsref04_Plain.j2 (k + 4) (bs l) _ (cntD (pl1 l)) (among [46] (dropD (pl1 l))) = _
  rw [hj2]
  have hv : plainV l = (if plN l = 0 then false else if among [101, 69] (pl4 l) = true then (if cntD (dropS [43, 45] (dropS [101, 69] (pl4 l))) = 0 then false else (dropD (dropS [43, 45] (dropS [101, 69] (pl4 l)))).isEmpty) else (pl4 l).isEmpty) := rfl
  rw [hv]
  cases ha : among [46] (dropD (pl1 l))
  ·have e4 : pl4 l = dropS [46] (dropD (pl1 l)) := by unfold pl4 plDot pl3 pl2; rw [ha]; rfl
   have en : plN l = cntD (pl1 l) := by unfold plN plDot pl2; rw [ha]; rfl
   rw [ha] at h3
   simp only [Bool.false_eq_true, if_false, Nat.add_zero] at h3 ⊢
   rw [e4, en]
   exact j3_eq hl k hk _ _ h3 _ hc.1
  ·have e4 : pl4 l = dropD (dropS [46] (dropD (pl1 l))) := by unfold pl4 plDot pl3 pl2; rw [ha]; rfl
   have en : plN l = cntD (pl1 l) + cntD (dropS [46] (dropD (pl1 l))) := by unfold plN plDot pl3 pl2; rw [ha]; rfl
   rw [ha] at h3
   simp only [if_true] at h3 ⊢
   rw [e4, en]
   exact j3_eq hl k hk _ _ h3.skip _ (by have := (cntD_bd (dropS [46] (dropD (pl1 l)))).1; omega)
 generalize hg : pl2 l = s2 at key
 have h2' : At l (i + (cntD (pl1 l)).toNat) s2 := by rw [← hg]; exact h2
 cases s2 with
 | nil =>
  have := h2'.nil
  rw [if_neg (by omega)]
  exact key
 | cons c r =>
  have := h2'.lt
  rw [if_pos (by omega), if_pos (by omega), h2'.byte]
  rw [am1] at key
  exact key
theorem ref_plain (k : Nat) (hk : l.length < k) : soundingsref04_Plain.f (k + 6) (bs l) = some (plainV l) := by
 have hs := bs_size l
 have h0 : At l 0 l := ⟨by omega, by simp⟩
 have h1 := h0.sgn [45]
 unfold soundingsref04_Plain.f
 cases l with
 | nil =>
  rw [if_neg (by simp [bs, ByteArray.size])]
  rw [show k + 6 = (k + 5) + 1 from rfl, soundingsref04_Plain.j0]
  simp only [Bool.false_eq_true, if_false]
  exact j1_eq hl k hk 0 (by simpa [pl1, dropS, among] using h0)
 | cons c r =>
  rw [if_pos (by simp at hs; omega), if_pos (by simp at hs; omega)]
  have hb : bt (bs (c :: r)) 0 = (c.toNat : Int) := by have := h0.byte; simpa using this
  rw [hb]
  have ha := am1 45 c r
  rw [show k + 6 = (k + 5) + 1 from rfl, soundingsref04_Plain.j0]
  split
  ·rename_i hc
   have e : among [45] (c :: r) = true := by rw [ha]; exact hc
   rw [e] at h1
   exact j1_eq hl k hk 1 (show At (c :: r) 1 (dropS [45] (c :: r)) from by simpa using h1)
  ·rename_i hc
   have e : among [45] (c :: r) = false := by rw [ha]; exact Bool.eq_false_iff.2 hc
   rw [e] at h1
   exact j1_eq hl k hk 0 (show At (c :: r) 0 (dropS [45] (c :: r)) from by simpa using h1)
end
end Go.Proofs.YtjleceekccehoaaGreatDoor.Pr
end
