/- Texts of this session, cut down to what one claim needs and joined: PrSoundingsref08Sign, LexSg. -/
import Derived.Test.YtjleceekccehoaaGreatDoorVGJ0
import Derived.Test.YtjleceekccehoaaGreatDoorVLexK
section
-- Written by a program of this session (wip/hook.py) out of the translation. Not trusted: Lean checks it.
namespace Go.Proofs.YtjleceekccehoaaGreatDoor.Pr
open Go.RowKit Go.Proofs.YtjleceekccehoaaGreatDoorW.PrintWords Go.Proofs.YtjleceekccehoaaGreatDoorW.PrintLast Go.Proofs.YtjleceekccehoaaGreatDoorW.PrintMore
attribute [local go_sem] max2_int min2_int max_two min_two max_three min_three max_four min_four   -- for this text's walks alone
set_option linter.unusedVariables false
set_option linter.unusedSimpArgs false

/-! ### soundingsref08_sign: function 56 -/
def soundingsref08_sign.j0 : Nat → ByteArray → Int → Option (Int)
 | 0, _, _ => none
 | k + 1, x0, x1 => if 0 ≤ x1 then (if x1 < (x0.size : Int) then (if (bt x0 x1) = 61 then (some 1) else (if (bt x0 x1) = 62 then (some 1) else (if (bt x0 x1) = 60 then (some 1) else (if (bt x0 x1) = 43 then (some 1) else (if (bt x0 x1) = 45 then (some 1) else (if (bt x0 x1) = 42 then (some 1) else (if (bt x0 x1) = 47 then (some 1) else (if (bt x0 x1) = 37 then (some 1) else (if (bt x0 x1) = 64 then (some 1) else (if (bt x0 x1) = 40 then (some 1) else (if (bt x0 x1) = 41 then (some 1) else (if (bt x0 x1) = 123 then (some 1) else (if (bt x0 x1) = 125 then (some 1) else (if (bt x0 x1) = 91 then (some 1) else (if (bt x0 x1) = 93 then (some 1) else (if (bt x0 x1) = 44 then (some 1) else (some 0))))))))))))))))) else (none)) else (none)
def soundingsref08_sign.f (k : Nat) (a0 : ByteArray) (a1 : Int) : Option (Int) := if (wrap64 (a1 + 1)) < (a0.size : Int) then (if 0 ≤ a1 then (if a1 ≤ (wrap64 (a1 + 2)) then (if (wrap64 (a1 + 2)) ≤ (a0.size : Int) then (if (a0.extract (a1 : Int).toNat ((wrap64 (a1 + 2)) : Int).toNat).toList = ([61, 61] : List UInt8) then (some 2) else (if (a0.extract (a1 : Int).toNat ((wrap64 (a1 + 2)) : Int).toNat).toList = ([33, 61] : List UInt8) then (some 2) else (if (a0.extract (a1 : Int).toNat ((wrap64 (a1 + 2)) : Int).toNat).toList = ([61, 126] : List UInt8) then (some 2) else (if (a0.extract (a1 : Int).toNat ((wrap64 (a1 + 2)) : Int).toNat).toList = ([33, 126] : List UInt8) then (some 2) else (if (a0.extract (a1 : Int).toNat ((wrap64 (a1 + 2)) : Int).toNat).toList = ([62, 61] : List UInt8) then (some 2) else (if (a0.extract (a1 : Int).toNat ((wrap64 (a1 + 2)) : Int).toNat).toList = ([60, 61] : List UInt8) then (some 2) else (soundingsref08_sign.j0 k a0 a1))))))) else (none)) else (none)) else (none)) else (soundingsref08_sign.j0 k a0 a1)
theorem soundingsref08_sign.mono_l : ∀ k, (∀ y0 y1, LeO (soundingsref08_sign.j0 k y0 y1) (soundingsref08_sign.j0 (k + 1) y0 y1))
 | 0 => fun _ _ r h => by simp [soundingsref08_sign.j0] at h
 | k + 1 => by
  have ih0 := soundingsref08_sign.mono_l k
  ·intro y0 y1
   unfold soundingsref08_sign.j0
   repeat' first
   | (with_reducible exact ih0 _ _)
   | (with_reducible exact LeO.refl _)
   | (with_reducible exact LeO.none _)
   | (with_reducible refine LeO.ite ?_ ?_)
   | (with_reducible refine LeO.bind ?_ (fun _ => ?_))
   | exact ih0 _ _
   | exact LeO.none _
   | refine LeO.ite ?_ ?_
   | refine LeO.bind ?_ (fun _ => ?_)
theorem soundingsref08_sign.mono : ∀ a0 a1 k, LeO (soundingsref08_sign.f k a0 a1) (soundingsref08_sign.f (k + 1) a0 a1) := by
 intro a0 a1 k
 have ih0 := soundingsref08_sign.mono_l k
 unfold soundingsref08_sign.f
 repeat' first
   | (with_reducible exact ih0 _ _)
   | (with_reducible exact LeO.refl _)
   | (with_reducible exact LeO.none _)
   | (with_reducible refine LeO.ite ?_ ?_)
   | (with_reducible refine LeO.bind ?_ (fun _ => ?_))
   | exact ih0 _ _
   | exact LeO.none _
   | refine LeO.ite ?_ ?_
   | refine LeO.bind ?_ (fun _ => ?_)
set_option maxHeartbeats 8000000 in
set_option maxRecDepth 100000 in
theorem soundingsref08_sign.calls (k : Nat) (a0 : ByteArray) (a1 : Int) (r : Int) (w : World) (h : soundingsref08_sign.f k a0 a1 = some r) :
  Calls Tryz.prog 56 #[.string a0, .int .i64 a1] w fun e w' => e = .returned (.int .i64 r) ∧ Drawn0 w w' := by
 have H : (if (wrap64 (a1 + 1)) < (a0.size : Int) then (if 0 ≤ a1 then (if a1 ≤ (wrap64 (a1 + 2)) then (if (wrap64 (a1 + 2)) ≤ (a0.size : Int) then (if (a0.extract (a1 : Int).toNat ((wrap64 (a1 + 2)) : Int).toNat).toList = ([61, 61] : List UInt8) then (some 2) else (if (a0.extract (a1 : Int).toNat ((wrap64 (a1 + 2)) : Int).toNat).toList = ([33, 61] : List UInt8) then (some 2) else (if (a0.extract (a1 : Int).toNat ((wrap64 (a1 + 2)) : Int).toNat).toList = ([61, 126] : List UInt8) then (some 2) else (if (a0.extract (a1 : Int).toNat ((wrap64 (a1 + 2)) : Int).toNat).toList = ([33, 126] : List UInt8) then (some 2) else (if (a0.extract (a1 : Int).toNat ((wrap64 (a1 + 2)) : Int).toNat).toList = ([62, 61] : List UInt8) then (some 2) else (if (a0.extract (a1 : Int).toNat ((wrap64 (a1 + 2)) : Int).toNat).toList = ([60, 61] : List UInt8) then (some 2) else (soundingsref08_sign.j0 k a0 a1))))))) else (none)) else (none)) else (none)) else (soundingsref08_sign.j0 k a0 a1)) = some r := h
 clear h
 have HC3 := Aside0.mk H
 clear H
 go_enter Tryz.func56, Tryz.ntmps56
 go_upto_if 10 with (fail)
 go_cut [] (fun wc => ∃ (kq : Nat), Aside0 (soundingsref08_sign.j0 kq a0 a1 = some r) ∧ Aside0 (kq ≤ k) ∧ Drawn0 w wc)
 case first =>
  have H := HC3.out
  clear HC3
  by_cases c4 : (wrap64 (a1 + 1)) < (a0.size : Int)
  ·rw [if_pos c4] at H
   have c4b0 : decide ((wrap64 (a1 + 1)) < (a0.size : Int)) = true := decide_eq_true c4
   clear c4
   (first | rw [c4b0] | (simp only [i64_w, i32_w]; rw [c4b0]) | skip)
   by_cases c5 : 0 ≤ a1
   ·rw [if_pos c5] at H
    have c5b0 := eq_true c5
    have c5b1 : decide (0 ≤ a1) = true := decide_eq_true c5
    clear c5
    by_cases c6 : a1 ≤ (wrap64 (a1 + 2))
    ·rw [if_pos c6] at H
     have c6b0 := eq_true c6
     have c6b1 : decide (a1 ≤ (wrap64 (a1 + 2))) = true := decide_eq_true c6
     by_cases c7 : (wrap64 (a1 + 2)) ≤ (a0.size : Int)
     ·rw [if_pos c7] at H
      have c7b0 := eq_true c7
      have c7b1 : decide ((wrap64 (a1 + 2)) ≤ (a0.size : Int)) = true := decide_eq_true c7
      by_cases c8 : (a0.extract (a1 : Int).toNat ((wrap64 (a1 + 2)) : Int).toNat).toList = ([61, 61] : List UInt8)
      ·rw [if_pos c8] at H
       have c8b0 : ((a0.extract (a1 : Int).toNat ((wrap64 (a1 + 2)) : Int).toNat).toList == ([61, 61] : List UInt8)) = true := beq_iff_eq.mpr c8
       have c8b1 : ((a0.extract (a1 : Int).toNat ((wrap64 (a1 + 2)) : Int).toNat).toList != ([61, 61] : List UInt8)) = false := bne_eq_false_iff_eq.mpr c8
       clear c8
       obtain rfl := Option.some.inj H
       go_wp2
       go_ret
       exact ⟨by first | rfl | (simp; done) | (simp [*]; done), by repeat (first | exact Drawn0.refl _ | apply Drawn0.step)⟩
      ·rw [if_neg c8] at H
       have c8b0 : ((a0.extract (a1 : Int).toNat ((wrap64 (a1 + 2)) : Int).toNat).toList == ([61, 61] : List UInt8)) = false := beq_eq_false_iff_ne.mpr c8
       have c8b1 : ((a0.extract (a1 : Int).toNat ((wrap64 (a1 + 2)) : Int).toNat).toList != ([61, 61] : List UInt8)) = true := bne_iff_ne.mpr c8
       by_cases c9 : (a0.extract (a1 : Int).toNat ((wrap64 (a1 + 2)) : Int).toNat).toList = ([33, 61] : List UInt8)
       ·rw [if_pos c9] at H
        have c9b0 : ((a0.extract (a1 : Int).toNat ((wrap64 (a1 + 2)) : Int).toNat).toList == ([33, 61] : List UInt8)) = true := beq_iff_eq.mpr c9
        have c9b1 : ((a0.extract (a1 : Int).toNat ((wrap64 (a1 + 2)) : Int).toNat).toList != ([33, 61] : List UInt8)) = false := bne_eq_false_iff_eq.mpr c9
        clear c9
        obtain rfl := Option.some.inj H
        go_wp2
        go_ret
        exact ⟨by first | rfl | (simp; done) | (simp [*]; done), by repeat (first | exact Drawn0.refl _ | apply Drawn0.step)⟩
       ·rw [if_neg c9] at H
        have c9b0 : ((a0.extract (a1 : Int).toNat ((wrap64 (a1 + 2)) : Int).toNat).toList == ([33, 61] : List UInt8)) = false := beq_eq_false_iff_ne.mpr c9
        have c9b1 : ((a0.extract (a1 : Int).toNat ((wrap64 (a1 + 2)) : Int).toNat).toList != ([33, 61] : List UInt8)) = true := bne_iff_ne.mpr c9
        by_cases c10 : (a0.extract (a1 : Int).toNat ((wrap64 (a1 + 2)) : Int).toNat).toList = ([61, 126] : List UInt8)
        ·rw [if_pos c10] at H
         have c10b0 : ((a0.extract (a1 : Int).toNat ((wrap64 (a1 + 2)) : Int).toNat).toList == ([61, 126] : List UInt8)) = true := beq_iff_eq.mpr c10
         have c10b1 : ((a0.extract (a1 : Int).toNat ((wrap64 (a1 + 2)) : Int).toNat).toList != ([61, 126] : List UInt8)) = false := bne_eq_false_iff_eq.mpr c10
         clear c10
         obtain rfl := Option.some.inj H
         go_wp2
         go_ret
         exact ⟨by first | rfl | (simp; done) | (simp [*]; done), by repeat (first | exact Drawn0.refl _ | apply Drawn0.step)⟩
        ·rw [if_neg c10] at H
         have c10b0 : ((a0.extract (a1 : Int).toNat ((wrap64 (a1 + 2)) : Int).toNat).toList == ([61, 126] : List UInt8)) = false := beq_eq_false_iff_ne.mpr c10
         have c10b1 : ((a0.extract (a1 : Int).toNat ((wrap64 (a1 + 2)) : Int).toNat).toList != ([61, 126] : List UInt8)) = true := bne_iff_ne.mpr c10
         by_cases c11 : (a0.extract (a1 : Int).toNat ((wrap64 (a1 + 2)) : Int).toNat).toList = ([33, 126] : List UInt8)
         ·rw [if_pos c11] at H
          have c11b0 : ((a0.extract (a1 : Int).toNat ((wrap64 (a1 + 2)) : Int).toNat).toList == ([33, 126] : List UInt8)) = true := beq_iff_eq.mpr c11
          have c11b1 : ((a0.extract (a1 : Int).toNat ((wrap64 (a1 + 2)) : Int).toNat).toList != ([33, 126] : List UInt8)) = false := bne_eq_false_iff_eq.mpr c11
          clear c11
          obtain rfl := Option.some.inj H
          go_wp2
          go_ret
          exact ⟨by first | rfl | (simp; done) | (simp [*]; done), by repeat (first | exact Drawn0.refl _ | apply Drawn0.step)⟩
         ·rw [if_neg c11] at H
          have c11b0 : ((a0.extract (a1 : Int).toNat ((wrap64 (a1 + 2)) : Int).toNat).toList == ([33, 126] : List UInt8)) = false := beq_eq_false_iff_ne.mpr c11
          have c11b1 : ((a0.extract (a1 : Int).toNat ((wrap64 (a1 + 2)) : Int).toNat).toList != ([33, 126] : List UInt8)) = true := bne_iff_ne.mpr c11
          by_cases c12 : (a0.extract (a1 : Int).toNat ((wrap64 (a1 + 2)) : Int).toNat).toList = ([62, 61] : List UInt8)
          ·rw [if_pos c12] at H
           have c12b0 : ((a0.extract (a1 : Int).toNat ((wrap64 (a1 + 2)) : Int).toNat).toList == ([62, 61] : List UInt8)) = true := beq_iff_eq.mpr c12
           have c12b1 : ((a0.extract (a1 : Int).toNat ((wrap64 (a1 + 2)) : Int).toNat).toList != ([62, 61] : List UInt8)) = false := bne_eq_false_iff_eq.mpr c12
           clear c12
           obtain rfl := Option.some.inj H
           go_wp2
           go_ret
           exact ⟨by first | rfl | (simp; done) | (simp [*]; done), by repeat (first | exact Drawn0.refl _ | apply Drawn0.step)⟩
          ·rw [if_neg c12] at H
           have c12b0 : ((a0.extract (a1 : Int).toNat ((wrap64 (a1 + 2)) : Int).toNat).toList == ([62, 61] : List UInt8)) = false := beq_eq_false_iff_ne.mpr c12
           have c12b1 : ((a0.extract (a1 : Int).toNat ((wrap64 (a1 + 2)) : Int).toNat).toList != ([62, 61] : List UInt8)) = true := bne_iff_ne.mpr c12
           by_cases c13 : (a0.extract (a1 : Int).toNat ((wrap64 (a1 + 2)) : Int).toNat).toList = ([60, 61] : List UInt8)
           ·rw [if_pos c13] at H
            have c13b0 : ((a0.extract (a1 : Int).toNat ((wrap64 (a1 + 2)) : Int).toNat).toList == ([60, 61] : List UInt8)) = true := beq_iff_eq.mpr c13
            have c13b1 : ((a0.extract (a1 : Int).toNat ((wrap64 (a1 + 2)) : Int).toNat).toList != ([60, 61] : List UInt8)) = false := bne_eq_false_iff_eq.mpr c13
            clear c13
            obtain rfl := Option.some.inj H
            go_wp2
            go_ret
            exact ⟨by first | rfl | (simp; done) | (simp [*]; done), by repeat (first | exact Drawn0.refl _ | apply Drawn0.step)⟩
           ·rw [if_neg c13] at H
            have c13b0 : ((a0.extract (a1 : Int).toNat ((wrap64 (a1 + 2)) : Int).toNat).toList == ([60, 61] : List UInt8)) = false := beq_eq_false_iff_ne.mpr c13
            have c13b1 : ((a0.extract (a1 : Int).toNat ((wrap64 (a1 + 2)) : Int).toNat).toList != ([60, 61] : List UInt8)) = true := bne_iff_ne.mpr c13
            have H' := Aside0.mk H
            clear H
            go_wp2
            go_meet
            case rel => exact ⟨_, H', ⟨by first | omega | exact Nat.le_refl _⟩, by repeat (first | exact Drawn0.refl _ | apply Drawn0.step)⟩
     ·rw [if_neg c7] at H
      exact absurd H (by simp)
    ·rw [if_neg c6] at H
     exact absurd H (by simp)
   ·rw [if_neg c5] at H
    exact absurd H (by simp)
  ·rw [if_neg c4] at H
   have c4b0 : decide ((wrap64 (a1 + 1)) < (a0.size : Int)) = false := decide_eq_false c4
   clear c4
   (first | rw [c4b0] | (simp only [i64_w, i32_w]; rw [c4b0]) | skip)
   have H' := Aside0.mk H
   clear H
   go_wp2
   go_meet
   case rel => exact ⟨_, H', ⟨by first | omega | exact Nat.le_refl _⟩, by repeat (first | exact Drawn0.refl _ | apply Drawn0.step)⟩
 case rest =>
  clear HC3
  try clear c1
  try clear p2
  try clear c4
  try clear c4b0
  try clear c5
  try clear c5b0
  try clear c5b1
  try clear c6
  try clear c6b0
  try clear c6b1
  try clear p6
  try clear c7
  try clear c7b0
  try clear c7b1
  try clear c8
  try clear c8b0
  try clear c8b1
  try clear c9
  try clear c9b0
  try clear c9b1
  try clear c10
  try clear c10b0
  try clear c10b1
  try clear c11
  try clear c11b0
  try clear c11b1
  try clear c12
  try clear c12b0
  try clear c12b1
  try clear c13
  try clear c13b0
  try clear c13b1
  obtain ⟨kq, HA, HJ2, ⟨mc2, rfl⟩⟩ := hcut
  cases kq with
  | zero => exact absurd HA.out (by simp [soundingsref08_sign.j0])
  | succ kj2 =>
   have H := HA.out
   clear HA
   simp only [soundingsref08_sign.j0] at H
   by_cases c14 : 0 ≤ a1
   ·rw [if_pos c14] at H
    have c14b0 : decide (0 ≤ a1) = true := decide_eq_true c14
    clear c14
    by_cases c15 : a1 < (a0.size : Int)
    ·rw [if_pos c15] at H
     have c15b0 : decide (a1 < (a0.size : Int)) = true := decide_eq_true c15
     clear c15
     by_cases c17 : (bt a0 a1) = 61
     ·rw [if_pos c17] at H
      have c17b0 : ((bt a0 a1) == 61) = true := beq_iff_eq.mpr c17
      have c17b1 : ((bt a0 a1) != 61) = false := bne_eq_false_iff_eq.mpr c17
      clear c17
      obtain rfl := Option.some.inj H
      have p16 : 0 ≤ (a1 : Int) := of_decide_eq_true (by first | (with_reducible assumption) | assumption)
      have q16 : a1 < (a0.size : Int) := of_decide_eq_true (by first | (with_reducible assumption) | assumption)
      have hx16 := bt_at a0 a1
      replace p16 := eq_true p16
      replace q16 := eq_true q16
      go_wp2
      go_ret
      exact ⟨by first | rfl | (simp; done) | (simp [*]; done), by repeat (first | exact Drawn0.refl _ | apply Drawn0.step)⟩
     ·rw [if_neg c17] at H
      have c17b0 : ((bt a0 a1) == 61) = false := beq_eq_false_iff_ne.mpr c17
      have c17b1 : ((bt a0 a1) != 61) = true := bne_iff_ne.mpr c17
      by_cases c18 : (bt a0 a1) = 62
      ·rw [if_pos c18] at H
       have c18b0 : ((bt a0 a1) == 62) = true := beq_iff_eq.mpr c18
       have c18b1 : ((bt a0 a1) != 62) = false := bne_eq_false_iff_eq.mpr c18
       clear c18
       obtain rfl := Option.some.inj H
       have p16 : 0 ≤ (a1 : Int) := of_decide_eq_true (by first | (with_reducible assumption) | assumption)
       have q16 : a1 < (a0.size : Int) := of_decide_eq_true (by first | (with_reducible assumption) | assumption)
       have hx16 := bt_at a0 a1
       replace p16 := eq_true p16
       replace q16 := eq_true q16
       go_wp2
       go_ret
       exact ⟨by first | rfl | (simp; done) | (simp [*]; done), by repeat (first | exact Drawn0.refl _ | apply Drawn0.step)⟩
      ·rw [if_neg c18] at H
       have c18b0 : ((bt a0 a1) == 62) = false := beq_eq_false_iff_ne.mpr c18
       have c18b1 : ((bt a0 a1) != 62) = true := bne_iff_ne.mpr c18
       by_cases c19 : (bt a0 a1) = 60
       ·rw [if_pos c19] at H
        have c19b0 : ((bt a0 a1) == 60) = true := beq_iff_eq.mpr c19
        have c19b1 : ((bt a0 a1) != 60) = false := bne_eq_false_iff_eq.mpr c19
        clear c19
        obtain rfl := Option.some.inj H
        have p16 : 0 ≤ (a1 : Int) := of_decide_eq_true (by first | (with_reducible assumption) | assumption)
        have q16 : a1 < (a0.size : Int) := of_decide_eq_true (by first | (with_reducible assumption) | assumption)
        have hx16 := bt_at a0 a1
        replace p16 := eq_true p16
        replace q16 := eq_true q16
        go_wp2
        go_ret
        exact ⟨by first | rfl | (simp; done) | (simp [*]; done), by repeat (first | exact Drawn0.refl _ | apply Drawn0.step)⟩
       ·rw [if_neg c19] at H
        have c19b0 : ((bt a0 a1) == 60) = false := beq_eq_false_iff_ne.mpr c19
        have c19b1 : ((bt a0 a1) != 60) = true := bne_iff_ne.mpr c19
        by_cases c20 : (bt a0 a1) = 43
        ·rw [if_pos c20] at H
         have c20b0 : ((bt a0 a1) == 43) = true := beq_iff_eq.mpr c20
         have c20b1 : ((bt a0 a1) != 43) = false := bne_eq_false_iff_eq.mpr c20
         clear c20
         obtain rfl := Option.some.inj H
         have p16 : 0 ≤ (a1 : Int) := of_decide_eq_true (by first | (with_reducible assumption) | assumption)
         have q16 : a1 < (a0.size : Int) := of_decide_eq_true (by first | (with_reducible assumption) | assumption)
         have hx16 := bt_at a0 a1
         replace p16 := eq_true p16
         replace q16 := eq_true q16
         go_wp2
         go_ret
         exact ⟨by first | rfl | (simp; done) | (simp [*]; done), by repeat (first | exact Drawn0.refl _ | apply Drawn0.step)⟩
        ·rw [if_neg c20] at H
         have c20b0 : ((bt a0 a1) == 43) = false := beq_eq_false_iff_ne.mpr c20
         have c20b1 : ((bt a0 a1) != 43) = true := bne_iff_ne.mpr c20
         by_cases c21 : (bt a0 a1) = 45
         ·rw [if_pos c21] at H
          have c21b0 : ((bt a0 a1) == 45) = true := beq_iff_eq.mpr c21
          have c21b1 : ((bt a0 a1) != 45) = false := bne_eq_false_iff_eq.mpr c21
          clear c21
          obtain rfl := Option.some.inj H
          have p16 : 0 ≤ (a1 : Int) := of_decide_eq_true (by first | (with_reducible assumption) | assumption)
          have q16 : a1 < (a0.size : Int) := of_decide_eq_true (by first | (with_reducible assumption) | assumption)
          have hx16 := bt_at a0 a1
          replace p16 := eq_true p16
          replace q16 := eq_true q16
          go_wp2
          go_ret
          exact ⟨by first | rfl | (simp; done) | (simp [*]; done), by repeat (first | exact Drawn0.refl _ | apply Drawn0.step)⟩
         ·rw [if_neg c21] at H
          have c21b0 : ((bt a0 a1) == 45) = false := beq_eq_false_iff_ne.mpr c21
          have c21b1 : ((bt a0 a1) != 45) = true := bne_iff_ne.mpr c21
          by_cases c22 : (bt a0 a1) = 42
          ·rw [if_pos c22] at H
           have c22b0 : ((bt a0 a1) == 42) = true := beq_iff_eq.mpr c22
           have c22b1 : ((bt a0 a1) != 42) = false := bne_eq_false_iff_eq.mpr c22
           clear c22
           obtain rfl := Option.some.inj H
           have p16 : 0 ≤ (a1 : Int) := of_decide_eq_true (by first | (with_reducible assumption) | assumption)
           have q16 : a1 < (a0.size : Int) := of_decide_eq_true (by first | (with_reducible assumption) | assumption)
           have hx16 := bt_at a0 a1
           replace p16 := eq_true p16
           replace q16 := eq_true q16
           go_wp2
           go_ret
           exact ⟨by first | rfl | (simp; done) | (simp [*]; done), by repeat (first | exact Drawn0.refl _ | apply Drawn0.step)⟩
          ·rw [if_neg c22] at H
           have c22b0 : ((bt a0 a1) == 42) = false := beq_eq_false_iff_ne.mpr c22
           have c22b1 : ((bt a0 a1) != 42) = true := bne_iff_ne.mpr c22
           by_cases c23 : (bt a0 a1) = 47
           ·rw [if_pos c23] at H
            have c23b0 : ((bt a0 a1) == 47) = true := beq_iff_eq.mpr c23
            have c23b1 : ((bt a0 a1) != 47) = false := bne_eq_false_iff_eq.mpr c23
            clear c23
            obtain rfl := Option.some.inj H
            have p16 : 0 ≤ (a1 : Int) := of_decide_eq_true (by first | (with_reducible assumption) | assumption)
            have q16 : a1 < (a0.size : Int) := of_decide_eq_true (by first | (with_reducible assumption) | assumption)
            have hx16 := bt_at a0 a1
            replace p16 := eq_true p16
            replace q16 := eq_true q16
            go_wp2
            go_ret
            exact ⟨by first | rfl | (simp; done) | (simp [*]; done), by repeat (first | exact Drawn0.refl _ | apply Drawn0.step)⟩
           ·rw [if_neg c23] at H
            have c23b0 : ((bt a0 a1) == 47) = false := beq_eq_false_iff_ne.mpr c23
            have c23b1 : ((bt a0 a1) != 47) = true := bne_iff_ne.mpr c23
            by_cases c24 : (bt a0 a1) = 37
            ·rw [if_pos c24] at H
             have c24b0 : ((bt a0 a1) == 37) = true := beq_iff_eq.mpr c24
             have c24b1 : ((bt a0 a1) != 37) = false := bne_eq_false_iff_eq.mpr c24
             clear c24
             obtain rfl := Option.some.inj H
             have p16 : 0 ≤ (a1 : Int) := of_decide_eq_true (by first | (with_reducible assumption) | assumption)
             have q16 : a1 < (a0.size : Int) := of_decide_eq_true (by first | (with_reducible assumption) | assumption)
             have hx16 := bt_at a0 a1
             replace p16 := eq_true p16
             replace q16 := eq_true q16
             go_wp2
             go_ret
             exact ⟨by first | rfl | (simp; done) | (simp [*]; done), by repeat (first | exact Drawn0.refl _ | apply Drawn0.step)⟩
            ·rw [if_neg c24] at H
             have c24b0 : ((bt a0 a1) == 37) = false := beq_eq_false_iff_ne.mpr c24
             have c24b1 : ((bt a0 a1) != 37) = true := bne_iff_ne.mpr c24
             by_cases c25 : (bt a0 a1) = 64
             ·rw [if_pos c25] at H
              have c25b0 : ((bt a0 a1) == 64) = true := beq_iff_eq.mpr c25
              have c25b1 : ((bt a0 a1) != 64) = false := bne_eq_false_iff_eq.mpr c25
              clear c25
              obtain rfl := Option.some.inj H
              have p16 : 0 ≤ (a1 : Int) := of_decide_eq_true (by first | (with_reducible assumption) | assumption)
              have q16 : a1 < (a0.size : Int) := of_decide_eq_true (by first | (with_reducible assumption) | assumption)
              have hx16 := bt_at a0 a1
              replace p16 := eq_true p16
              replace q16 := eq_true q16
              go_wp2
              go_ret
              exact ⟨by first | rfl | (simp; done) | (simp [*]; done), by repeat (first | exact Drawn0.refl _ | apply Drawn0.step)⟩
             ·rw [if_neg c25] at H
              have c25b0 : ((bt a0 a1) == 64) = false := beq_eq_false_iff_ne.mpr c25
              have c25b1 : ((bt a0 a1) != 64) = true := bne_iff_ne.mpr c25
              by_cases c26 : (bt a0 a1) = 40
              ·rw [if_pos c26] at H
               have c26b0 : ((bt a0 a1) == 40) = true := beq_iff_eq.mpr c26
               have c26b1 : ((bt a0 a1) != 40) = false := bne_eq_false_iff_eq.mpr c26
               clear c26
               obtain rfl := Option.some.inj H
               have p16 : 0 ≤ (a1 : Int) := of_decide_eq_true (by first | (with_reducible assumption) | assumption)
               have q16 : a1 < (a0.size : Int) := of_decide_eq_true (by first | (with_reducible assumption) | assumption)
               have hx16 := bt_at a0 a1
               replace p16 := eq_true p16
               replace q16 := eq_true q16
               go_wp2
               go_ret
               exact ⟨by first | rfl | (simp; done) | (simp [*]; done), by repeat (first | exact Drawn0.refl _ | apply Drawn0.step)⟩
              ·rw [if_neg c26] at H
               have c26b0 : ((bt a0 a1) == 40) = false := beq_eq_false_iff_ne.mpr c26
               have c26b1 : ((bt a0 a1) != 40) = true := bne_iff_ne.mpr c26
               by_cases c27 : (bt a0 a1) = 41
               ·rw [if_pos c27] at H
                have c27b0 : ((bt a0 a1) == 41) = true := beq_iff_eq.mpr c27
                have c27b1 : ((bt a0 a1) != 41) = false := bne_eq_false_iff_eq.mpr c27
                clear c27
                obtain rfl := Option.some.inj H
                have p16 : 0 ≤ (a1 : Int) := of_decide_eq_true (by first | (with_reducible assumption) | assumption)
                have q16 : a1 < (a0.size : Int) := of_decide_eq_true (by first | (with_reducible assumption) | assumption)
                have hx16 := bt_at a0 a1
                replace p16 := eq_true p16
                replace q16 := eq_true q16
                go_wp2
                go_ret
                exact ⟨by first | rfl | (simp; done) | (simp [*]; done), by repeat (first | exact Drawn0.refl _ | apply Drawn0.step)⟩
               ·rw [if_neg c27] at H
                have c27b0 : ((bt a0 a1) == 41) = false := beq_eq_false_iff_ne.mpr c27
                have c27b1 : ((bt a0 a1) != 41) = true := bne_iff_ne.mpr c27
                by_cases c28 : (bt a0 a1) = 123
                ·rw [if_pos c28] at H
                 have c28b0 : ((bt a0 a1) == 123) = true := beq_iff_eq.mpr c28
                 have c28b1 : ((bt a0 a1) != 123) = false := bne_eq_false_iff_eq.mpr c28
                 clear c28
                 obtain rfl := Option.some.inj H
                 have p16 : 0 ≤ (a1 : Int) := of_decide_eq_true (by first | (with_reducible assumption) | assumption)
                 have q16 : a1 < (a0.size : Int) := of_decide_eq_true (by first | (with_reducible assumption) | assumption)
                 have hx16 := bt_at a0 a1
                 replace p16 := eq_true p16
                 replace q16 := eq_true q16
                 go_wp2
                 go_ret
                 exact ⟨by first | rfl | (simp; done) | (simp [*]; done), by repeat (first | exact Drawn0.refl _ | apply Drawn0.step)⟩
                ·rw [if_neg c28] at H
                 have c28b0 : ((bt a0 a1) == 123) = false := beq_eq_false_iff_ne.mpr c28
                 have c28b1 : ((bt a0 a1) != 123) = true := bne_iff_ne.mpr c28
                 by_cases c29 : (bt a0 a1) = 125
                 ·rw [if_pos c29] at H
                  have c29b0 : ((bt a0 a1) == 125) = true := beq_iff_eq.mpr c29
                  have c29b1 : ((bt a0 a1) != 125) = false := bne_eq_false_iff_eq.mpr c29
                  clear c29
                  obtain rfl := Option.some.inj H
                  have p16 : 0 ≤ (a1 : Int) := of_decide_eq_true (by first | (with_reducible assumption) | assumption)
                  have q16 : a1 < (a0.size : Int) := of_decide_eq_true (by first | (with_reducible assumption) | assumption)
                  have hx16 := bt_at a0 a1
                  replace p16 := eq_true p16
                  replace q16 := eq_true q16
                  go_wp2
                  go_ret
                  exact ⟨by first | rfl | (simp; done) | (simp [*]; done), by repeat (first | exact Drawn0.refl _ | apply Drawn0.step)⟩
                 ·rw [if_neg c29] at H
                  have c29b0 : ((bt a0 a1) == 125) = false := beq_eq_false_iff_ne.mpr c29
                  have c29b1 : ((bt a0 a1) != 125) = true := bne_iff_ne.mpr c29
                  by_cases c30 : (bt a0 a1) = 91
                  ·rw [if_pos c30] at H
                   have c30b0 : ((bt a0 a1) == 91) = true := beq_iff_eq.mpr c30
                   have c30b1 : ((bt a0 a1) != 91) = false := bne_eq_false_iff_eq.mpr c30
                   clear c30
                   obtain rfl := Option.some.inj H
                   have p16 : 0 ≤ (a1 : Int) := of_decide_eq_true (by first | (with_reducible assumption) | assumption)
                   have q16 : a1 < (a0.size : Int) := of_decide_eq_true (by first | (with_reducible assumption) | assumption)
                   have hx16 := bt_at a0 a1
                   replace p16 := eq_true p16
                   replace q16 := eq_true q16
                   go_wp2
                   go_ret
                   exact ⟨by first | rfl | (simp; done) | (simp [*]; done), by repeat (first | exact Drawn0.refl _ | apply Drawn0.step)⟩
                  ·rw [if_neg c30] at H
                   have c30b0 : ((bt a0 a1) == 91) = false := beq_eq_false_iff_ne.mpr c30
                   have c30b1 : ((bt a0 a1) != 91) = true := bne_iff_ne.mpr c30
                   by_cases c31 : (bt a0 a1) = 93
                   ·rw [if_pos c31] at H
                    have c31b0 : ((bt a0 a1) == 93) = true := beq_iff_eq.mpr c31
                    have c31b1 : ((bt a0 a1) != 93) = false := bne_eq_false_iff_eq.mpr c31
                    clear c31
                    obtain rfl := Option.some.inj H
                    have p16 : 0 ≤ (a1 : Int) := of_decide_eq_true (by first | (with_reducible assumption) | assumption)
                    have q16 : a1 < (a0.size : Int) := of_decide_eq_true (by first | (with_reducible assumption) | assumption)
                    have hx16 := bt_at a0 a1
                    replace p16 := eq_true p16
                    replace q16 := eq_true q16
                    go_wp2
                    go_ret
                    exact ⟨by first | rfl | (simp; done) | (simp [*]; done), by repeat (first | exact Drawn0.refl _ | apply Drawn0.step)⟩
                   ·rw [if_neg c31] at H
                    have c31b0 : ((bt a0 a1) == 93) = false := beq_eq_false_iff_ne.mpr c31
                    have c31b1 : ((bt a0 a1) != 93) = true := bne_iff_ne.mpr c31
                    by_cases c32 : (bt a0 a1) = 44
                    ·rw [if_pos c32] at H
                     have c32b0 : ((bt a0 a1) == 44) = true := beq_iff_eq.mpr c32
                     have c32b1 : ((bt a0 a1) != 44) = false := bne_eq_false_iff_eq.mpr c32
                     clear c32
                     obtain rfl := Option.some.inj H
                     have p16 : 0 ≤ (a1 : Int) := of_decide_eq_true (by first | (with_reducible assumption) | assumption)
                     have q16 : a1 < (a0.size : Int) := of_decide_eq_true (by first | (with_reducible assumption) | assumption)
                     have hx16 := bt_at a0 a1
                     replace p16 := eq_true p16
                     replace q16 := eq_true q16
                     go_wp2
                     go_ret
                     exact ⟨by first | rfl | (simp; done) | (simp [*]; done), by repeat (first | exact Drawn0.refl _ | apply Drawn0.step)⟩
                    ·rw [if_neg c32] at H
                     have c32b0 : ((bt a0 a1) == 44) = false := beq_eq_false_iff_ne.mpr c32
                     have c32b1 : ((bt a0 a1) != 44) = true := bne_iff_ne.mpr c32
                     obtain rfl := Option.some.inj H
                     have p16 : 0 ≤ (a1 : Int) := of_decide_eq_true (by first | (with_reducible assumption) | assumption)
                     have q16 : a1 < (a0.size : Int) := of_decide_eq_true (by first | (with_reducible assumption) | assumption)
                     have hx16 := bt_at a0 a1
                     replace p16 := eq_true p16
                     replace q16 := eq_true q16
                     go_wp2
                     go_ret
                     exact ⟨by first | rfl | (simp; done) | (simp [*]; done), by repeat (first | exact Drawn0.refl _ | apply Drawn0.step)⟩
    ·rw [if_neg c15] at H
     exact absurd H (by simp)
   ·rw [if_neg c14] at H
    exact absurd H (by simp)

end Go.Proofs.YtjleceekccehoaaGreatDoor.Pr
end

section
set_option linter.unusedVariables false
set_option linter.unusedSimpArgs false
namespace Go.Proofs.YtjleceekccehoaaGreatDoor.Pr
open Go.RowKit Go.Proofs.YtjleceekccehoaaGreatDoorW.PrintWords

/-- How many bytes the sign has. -/
def signN (s : List UInt8) : Nat := match signs.find? (fun p => Lib.hasPrefix s p) with | some p => p.length | none => 0
theorem u8i (c a : UInt8) : ((c.toNat : Int) = (a.toNat : Int)) = (c = a) := propext ⟨fun h => UInt8.toNat_inj.1 (by omega), fun h => by rw [h]⟩
theorem pre1 (c a : UInt8) (r : List UInt8) : (Lib.hasPrefix (c :: r) [a] = true) = (c = a) := by
 show ((a == c && true) = true) = (c = a)
 rw [Bool.and_true, beq_iff_eq]
 exact propext eq_comm
theorem pre2 (c d a b : UInt8) (r : List UInt8) : (Lib.hasPrefix (c :: d :: r) [a, b] = true) = (c = a ∧ d = b) := by
 show ((a == c && (b == d && true)) = true) = (c = a ∧ d = b)
 rw [Bool.and_true, Bool.and_eq_true, beq_iff_eq, beq_iff_eq]
 exact propext ⟨fun h => ⟨h.1.symm, h.2.symm⟩, fun h => ⟨h.1.symm, h.2.symm⟩⟩
theorem pre20 (c a b : UInt8) : (Lib.hasPrefix [c] [a, b] = true) = False := by
 unfold Lib.hasPrefix
 simp [List.isPrefixOf]
theorem find_if (p : List UInt8 → Bool) (x : List UInt8) (l : List (List UInt8)) : (x :: l).find? p = if p x = true then some x else l.find? p := by
 rw [List.find?_cons]
 cases p x <;> rfl
theorem num_if {c : Prop} [Decidable c] (a b : Option (List UInt8)) : (match (if c then a else b) with | some p => p.length | none => 0 : Nat) = if c then (match a with | some p => p.length | none => 0) else (match b with | some p => p.length | none => 0) := by
 by_cases h : c
 ·rw [if_pos h, if_pos h]
 ·rw [if_neg h, if_neg h]
theorem some_if {c : Prop} [Decidable c] (a b : Nat) : (some (((if c then a else b : Nat)) : Int)) = if c then some (a : Int) else some (b : Int) := by
 split <;> rfl

theorem signN1 (c : UInt8) : signN [c] = if c = 61 then 1 else if c = 62 then 1 else if c = 60 then 1 else if c = 43 then 1 else if c = 45 then 1 else if c = 42 then 1 else if c = 47 then 1 else if c = 37 then 1 else if c = 64 then 1 else if c = 40 then 1 else if c = 41 then 1 else if c = 123 then 1 else if c = 125 then 1 else if c = 91 then 1 else if c = 93 then 1 else if c = 44 then 1 else 0 := by
 unfold signN signs
 simp only [find_if, pre1, pre20, num_if, if_false, List.find?_nil, List.length_cons, List.length_nil, Nat.zero_add]
theorem signN2 (c d : UInt8) (r : List UInt8) : signN (c :: d :: r) = if c = 61 ∧ d = 61 then 2 else if c = 33 ∧ d = 61 then 2 else if c = 61 ∧ d = 126 then 2 else if c = 33 ∧ d = 126 then 2 else if c = 62 ∧ d = 61 then 2 else if c = 60 ∧ d = 61 then 2 else if c = 61 then 1 else if c = 62 then 1 else if c = 60 then 1 else if c = 43 then 1 else if c = 45 then 1 else if c = 42 then 1 else if c = 47 then 1 else if c = 37 then 1 else if c = 64 then 1 else if c = 40 then 1 else if c = 41 then 1 else if c = 123 then 1 else if c = 125 then 1 else if c = 91 then 1 else if c = 93 then 1 else if c = 44 then 1 else 0 := by
 unfold signN signs
 simp only [find_if, pre1, pre2, num_if, List.find?_nil, List.length_cons, List.length_nil, Nat.zero_add]
theorem sign_j0 (l : List UInt8) (i : Nat) (c : UInt8) (r : List UInt8) (h : At l i (c :: r)) (k : Nat) : soundingsref08_sign.j0 (k + 1) (bs l) (i : Int) = some (((if c = 61 then 1 else if c = 62 then 1 else if c = 60 then 1 else if c = 43 then 1 else if c = 45 then 1 else if c = 42 then 1 else if c = 47 then 1 else if c = 37 then 1 else if c = 64 then 1 else if c = 40 then 1 else if c = 41 then 1 else if c = 123 then 1 else if c = 125 then 1 else if c = 91 then 1 else if c = 93 then 1 else if c = 44 then 1 else 0 : Nat)) : Int) := by
 have hlt := h.lt
 rw [soundingsref08_sign.j0, bs_size, if_pos (by omega), if_pos (by omega), h.byte]
 have e61 : ((c.toNat : Int) = 61) = (c = 61) := u8i c 61
 have e62 : ((c.toNat : Int) = 62) = (c = 62) := u8i c 62
 have e60 : ((c.toNat : Int) = 60) = (c = 60) := u8i c 60
 have e43 : ((c.toNat : Int) = 43) = (c = 43) := u8i c 43
 have e45 : ((c.toNat : Int) = 45) = (c = 45) := u8i c 45
 have e42 : ((c.toNat : Int) = 42) = (c = 42) := u8i c 42
 have e47 : ((c.toNat : Int) = 47) = (c = 47) := u8i c 47
 have e37 : ((c.toNat : Int) = 37) = (c = 37) := u8i c 37
 have e64 : ((c.toNat : Int) = 64) = (c = 64) := u8i c 64
 have e40 : ((c.toNat : Int) = 40) = (c = 40) := u8i c 40
 have e41 : ((c.toNat : Int) = 41) = (c = 41) := u8i c 41
 have e123 : ((c.toNat : Int) = 123) = (c = 123) := u8i c 123
 have e125 : ((c.toNat : Int) = 125) = (c = 125) := u8i c 125
 have e91 : ((c.toNat : Int) = 91) = (c = 91) := u8i c 91
 have e93 : ((c.toNat : Int) = 93) = (c = 93) := u8i c 93
 have e44 : ((c.toNat : Int) = 44) = (c = 44) := u8i c 44
 simp only [e61, e62, e60, e43, e45, e42, e47, e37, e64, e40, e41, e123, e125, e91, e93, e44, some_if]
 rfl
theorem sign_f (l : List UInt8) (hl : l.length ≤ 1000000) (i : Nat) (c : UInt8) (r : List UInt8) (h : At l i (c :: r)) (k : Nat) : soundingsref08_sign.f (k + 1) (bs l) (i : Int) = some ((signN (c :: r) : Nat) : Int) := by
 have hlt := h.lt
 have hw : wrap64 ((i : Int) + 1) = ((i + 1 : Nat) : Int) := by unfold wrap64; omega
 have hw2 : wrap64 ((i : Int) + 2) = ((i + 2 : Nat) : Int) := by unfold wrap64; omega
 unfold soundingsref08_sign.f
 rw [hw, hw2, bs_size]
 cases r with
 | nil =>
  rw [if_neg (by have := h.next.nil; omega), sign_j0 l i c [] h k, signN1]
 | cons d r =>
  have hlt2 := h.next.lt
  have hex : ((bs l).extract (i : Int).toNat ((i + 2 : Nat) : Int).toNat).toList = [c, d] := by
   rw [Int.toNat_natCast, Int.toNat_natCast, bs_mid, h.eq, show i + 2 - i = 2 from by omega, Lib.toList_data]
   rfl
  rw [if_pos (by omega), if_pos (by omega), if_pos (by omega), if_pos (by omega), hex, sign_j0 l i c (d :: r) h k, signN2]
  simp only [List.cons.injEq, and_true, some_if]
  rfl
end Go.Proofs.YtjleceekccehoaaGreatDoor.Pr
end
