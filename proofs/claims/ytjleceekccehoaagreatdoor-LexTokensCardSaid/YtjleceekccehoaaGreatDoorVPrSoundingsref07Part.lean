/- Texts of this session, cut down to what one claim needs and joined: PrSoundingsref07Part. -/
import Derived.Test.YtjleceekccehoaaGreatDoorVGJ0
import Derived.Test.YtjleceekccehoaaGreatDoorVGJ24
-- Written by a program of this session (wip/hook.py) out of the translation. Not trusted: Lean checks it.
namespace Go.Proofs.YtjleceekccehoaaGreatDoor.Pr
open Go.RowKit Go.Proofs.YtjleceekccehoaaGreatDoorW.PrintWords Go.Proofs.YtjleceekccehoaaGreatDoorW.PrintLast Go.Proofs.YtjleceekccehoaaGreatDoorW.PrintMore
attribute [local go_sem] max2_int min2_int max_two min_two max_three min_three max_four min_four   -- for this text's walks alone
set_option linter.unusedVariables false
set_option linter.unusedSimpArgs false

/-! ### soundingsref07_part: function 79 -/
mutual
def soundingsref07_part.l0 : Nat → ByteArray → Int → Int → Int → Option (Int × Int × Int × Bool)
 | 0, _, _, _, _ => none
 | k + 1, x0, x1, x8, x9 => if x1 < (x0.size : Int) then (if 0 ≤ x1 then (if (bt x0 x1) ≥ 48 then (soundingsref07_part.j1 k x0 x1 x8 x9 (decide ((bt x0 x1) ≤ 57))) else (soundingsref07_part.j1 k x0 x1 x8 x9 false)) else (none)) else (soundingsref07_part.j1 k x0 x1 x8 x9 false)
def soundingsref07_part.j1 : Nat → ByteArray → Int → Int → Int → Bool → Option (Int × Int × Int × Bool)
 | 0, _, _, _, _, _ => none
 | k + 1, x0, x1, x8, x9, x29 => if x29 = true then (if 0 ≤ x1 then (if x1 < (x0.size : Int) then (if (wrap64 ((wrap64 (10 * x8)) + (((bt x0 x1) - 48) % 256))) > 35184372088833 then (soundingsref07_part.l0 k x0 (wrap64 (x1 + 1)) 35184372088833 x9) else (soundingsref07_part.l0 k x0 (wrap64 (x1 + 1)) (wrap64 ((wrap64 (10 * x8)) + (((bt x0 x1) - 48) % 256))) x9)) else (none)) else (none)) else (soundingsref07_part.l1 k x0 x1 x8 x9 x1)
def soundingsref07_part.j3 : Nat → ByteArray → Int → Int → Int → Int → Option (Int × Int × Int × Bool)
 | 0, _, _, _, _, _ => none
 | k + 1, x0, x1, x8, x9, x10 => (soundingsref07_Units.f).bind fun t321 => (soundingsref07_part.l2 k x0 x1 x8 x9 x10 t321 0)
def soundingsref07_part.l2 : Nat → ByteArray → Int → Int → Int → Int → List ByteArray → Int → Option (Int × Int × Int × Bool)
 | 0, _, _, _, _, _, _, _ => none
 | k + 1, x0, x1, x8, x9, x10, x11, x12 => if x12 < (x11.length : Int) then (if x1 > x9 then (if 0 ≤ x1 then (if x1 ≤ x10 then (if x10 ≤ (x0.size : Int) then (if 0 ≤ x12 then (if (x0.extract (x1 : Int).toNat (x10 : Int).toNat).toList = (rdOf ByteArray.empty x11 x12).toList then (some (x8, x12, x10, true)) else (soundingsref07_part.l2 k x0 x1 x8 x9 x10 x11 (wrap64 (x12 + 1)))) else (none)) else (none)) else (none)) else (none)) else (soundingsref07_part.l2 k x0 x1 x8 x9 x10 x11 (wrap64 (x12 + 1)))) else (some (0, 0, 0, false))
def soundingsref07_part.l1 : Nat → ByteArray → Int → Int → Int → Int → Option (Int × Int × Int × Bool)
 | 0, _, _, _, _, _ => none
 | k + 1, x0, x1, x8, x9, x10 => if x10 < (x0.size : Int) then (if 0 ≤ x10 then (if (bt x0 x10) < 48 then (soundingsref07_part.l1 k x0 x1 x8 x9 (wrap64 (x10 + 1))) else (if (bt x0 x10) > 57 then (soundingsref07_part.l1 k x0 x1 x8 x9 (wrap64 (x10 + 1))) else (soundingsref07_part.j3 k x0 x1 x8 x9 x10))) else (none)) else (soundingsref07_part.j3 k x0 x1 x8 x9 x10)
end
def soundingsref07_part.f (k : Nat) (a0 : ByteArray) (a1 : Int) : Option (Int × Int × Int × Bool) := soundingsref07_part.l0 k a0 a1 0 a1
theorem soundingsref07_part.mono_l : ∀ k, (∀ y0 y1 y2 y3, LeO (soundingsref07_part.l0 k y0 y1 y2 y3) (soundingsref07_part.l0 (k + 1) y0 y1 y2 y3)) ∧ (∀ y0 y1 y2 y3 y4, LeO (soundingsref07_part.j1 k y0 y1 y2 y3 y4) (soundingsref07_part.j1 (k + 1) y0 y1 y2 y3 y4)) ∧ (∀ y0 y1 y2 y3 y4, LeO (soundingsref07_part.j3 k y0 y1 y2 y3 y4) (soundingsref07_part.j3 (k + 1) y0 y1 y2 y3 y4)) ∧ (∀ y0 y1 y2 y3 y4 y5 y6, LeO (soundingsref07_part.l2 k y0 y1 y2 y3 y4 y5 y6) (soundingsref07_part.l2 (k + 1) y0 y1 y2 y3 y4 y5 y6)) ∧ (∀ y0 y1 y2 y3 y4, LeO (soundingsref07_part.l1 k y0 y1 y2 y3 y4) (soundingsref07_part.l1 (k + 1) y0 y1 y2 y3 y4))
 | 0 => ⟨fun _ _ _ _ r h => by simp [soundingsref07_part.l0] at h, fun _ _ _ _ _ r h => by simp [soundingsref07_part.j1] at h, fun _ _ _ _ _ r h => by simp [soundingsref07_part.j3] at h, fun _ _ _ _ _ _ _ r h => by simp [soundingsref07_part.l2] at h, fun _ _ _ _ _ r h => by simp [soundingsref07_part.l1] at h⟩
 | k + 1 => by
  obtain ⟨ih0, ih1, ih2, ih3, ih4⟩ := soundingsref07_part.mono_l k
  refine ⟨?_, ?_, ?_, ?_, ?_⟩
  ·intro y0 y1 y2 y3
   unfold soundingsref07_part.l0
   repeat' first
   | (with_reducible exact ih0 _ _ _ _)
   | (with_reducible exact ih1 _ _ _ _ _)
   | (with_reducible exact ih2 _ _ _ _ _)
   | (with_reducible exact ih3 _ _ _ _ _ _ _)
   | (with_reducible exact ih4 _ _ _ _ _)
   | (with_reducible exact LeO.refl _)
   | (with_reducible exact LeO.none _)
   | (with_reducible refine LeO.ite ?_ ?_)
   | (with_reducible refine LeO.bind ?_ (fun _ => ?_))
   | exact ih0 _ _ _ _
   | exact ih1 _ _ _ _ _
   | exact ih2 _ _ _ _ _
   | exact ih3 _ _ _ _ _ _ _
   | exact ih4 _ _ _ _ _
   | exact LeO.none _
   | refine LeO.ite ?_ ?_
   | refine LeO.bind ?_ (fun _ => ?_)
  ·intro y0 y1 y2 y3 y4
   unfold soundingsref07_part.j1
   repeat' first
   | (with_reducible exact ih0 _ _ _ _)
   | (with_reducible exact ih1 _ _ _ _ _)
   | (with_reducible exact ih2 _ _ _ _ _)
   | (with_reducible exact ih3 _ _ _ _ _ _ _)
   | (with_reducible exact ih4 _ _ _ _ _)
   | (with_reducible exact LeO.refl _)
   | (with_reducible exact LeO.none _)
   | (with_reducible refine LeO.ite ?_ ?_)
   | (with_reducible refine LeO.bind ?_ (fun _ => ?_))
   | exact ih0 _ _ _ _
   | exact ih1 _ _ _ _ _
   | exact ih2 _ _ _ _ _
   | exact ih3 _ _ _ _ _ _ _
   | exact ih4 _ _ _ _ _
   | exact LeO.none _
   | refine LeO.ite ?_ ?_
   | refine LeO.bind ?_ (fun _ => ?_)
  ·intro y0 y1 y2 y3 y4
   unfold soundingsref07_part.j3
   repeat' first
   | (with_reducible exact ih0 _ _ _ _)
   | (with_reducible exact ih1 _ _ _ _ _)
   | (with_reducible exact ih2 _ _ _ _ _)
   | (with_reducible exact ih3 _ _ _ _ _ _ _)
   | (with_reducible exact ih4 _ _ _ _ _)
   | (with_reducible exact LeO.refl _)
   | (with_reducible exact LeO.none _)
   | (with_reducible refine LeO.ite ?_ ?_)
   | (with_reducible refine LeO.bind ?_ (fun _ => ?_))
   | exact ih0 _ _ _ _
   | exact ih1 _ _ _ _ _
   | exact ih2 _ _ _ _ _
   | exact ih3 _ _ _ _ _ _ _
   | exact ih4 _ _ _ _ _
   | exact LeO.none _
   | refine LeO.ite ?_ ?_
   | refine LeO.bind ?_ (fun _ => ?_)
  ·intro y0 y1 y2 y3 y4 y5 y6
   unfold soundingsref07_part.l2
   repeat' first
   | (with_reducible exact ih0 _ _ _ _)
   | (with_reducible exact ih1 _ _ _ _ _)
   | (with_reducible exact ih2 _ _ _ _ _)
   | (with_reducible exact ih3 _ _ _ _ _ _ _)
   | (with_reducible exact ih4 _ _ _ _ _)
   | (with_reducible exact LeO.refl _)
   | (with_reducible exact LeO.none _)
   | (with_reducible refine LeO.ite ?_ ?_)
   | (with_reducible refine LeO.bind ?_ (fun _ => ?_))
   | exact ih0 _ _ _ _
   | exact ih1 _ _ _ _ _
   | exact ih2 _ _ _ _ _
   | exact ih3 _ _ _ _ _ _ _
   | exact ih4 _ _ _ _ _
   | exact LeO.none _
   | refine LeO.ite ?_ ?_
   | refine LeO.bind ?_ (fun _ => ?_)
  ·intro y0 y1 y2 y3 y4
   unfold soundingsref07_part.l1
   repeat' first
   | (with_reducible exact ih0 _ _ _ _)
   | (with_reducible exact ih1 _ _ _ _ _)
   | (with_reducible exact ih2 _ _ _ _ _)
   | (with_reducible exact ih3 _ _ _ _ _ _ _)
   | (with_reducible exact ih4 _ _ _ _ _)
   | (with_reducible exact LeO.refl _)
   | (with_reducible exact LeO.none _)
   | (with_reducible refine LeO.ite ?_ ?_)
   | (with_reducible refine LeO.bind ?_ (fun _ => ?_))
   | exact ih0 _ _ _ _
   | exact ih1 _ _ _ _ _
   | exact ih2 _ _ _ _ _
   | exact ih3 _ _ _ _ _ _ _
   | exact ih4 _ _ _ _ _
   | exact LeO.none _
   | refine LeO.ite ?_ ?_
   | refine LeO.bind ?_ (fun _ => ?_)
theorem soundingsref07_part.mono : ∀ a0 a1 k, LeO (soundingsref07_part.f k a0 a1) (soundingsref07_part.f (k + 1) a0 a1) := by
 intro a0 a1 k
 obtain ⟨ih0, ih1, ih2, ih3, ih4⟩ := soundingsref07_part.mono_l k
 unfold soundingsref07_part.f
 repeat' first
   | (with_reducible exact ih0 _ _ _ _)
   | (with_reducible exact ih1 _ _ _ _ _)
   | (with_reducible exact ih2 _ _ _ _ _)
   | (with_reducible exact ih3 _ _ _ _ _ _ _)
   | (with_reducible exact ih4 _ _ _ _ _)
   | (with_reducible exact LeO.refl _)
   | (with_reducible exact LeO.none _)
   | (with_reducible refine LeO.ite ?_ ?_)
   | (with_reducible refine LeO.bind ?_ (fun _ => ?_))
   | exact ih0 _ _ _ _
   | exact ih1 _ _ _ _ _
   | exact ih2 _ _ _ _ _
   | exact ih3 _ _ _ _ _ _ _
   | exact ih4 _ _ _ _ _
   | exact LeO.none _
   | refine LeO.ite ?_ ?_
   | refine LeO.bind ?_ (fun _ => ?_)
set_option maxHeartbeats 8000000 in
set_option maxRecDepth 100000 in
theorem soundingsref07_part.calls (k : Nat) (a0 : ByteArray) (a1 : Int) (r1 : Int) (r2 : Int) (r3 : Int) (r4 : Bool) (w : World) (h : soundingsref07_part.f k a0 a1 = some (r1, r2, r3, r4)) :
  Calls Tryz.prog 79 #[.string a0, .int .i64 a1] w fun e w' => e = .returned (.tuple #[.int .i64 r1, .int .i64 r2, .int .i64 r3, .bool r4]) ∧ Below w.heap.size w w' := by
 have HB := Aside0.mk (Below.refl w.heap.size w)
 have H : (soundingsref07_part.l0 k a0 a1 0 a1) = some (r1, r2, r3, r4) := h
 clear h
 have H' := Aside0.mk H
 clear H
 go_enter Tryz.func79, Tryz.ntmps79
 go_wp2
 repeat (go_quiet (fail); try go_wp2)
 go_loopg [1, 8] k (fun kq v1 v8 w' => ∃ (x1_1 : Int) (x8_1 : Int), v1 = .int .i64 x1_1 ∧ v8 = .int .i64 x8_1 ∧ Aside0 (soundingsref07_part.l0 kq a0 x1_1 x8_1 a1 = some (r1, r2, r3, r4)) ∧ Aside0 (kq ≤ k) ∧ Aside0 (Below w.heap.size w w'))
 case atStart => exact ⟨(a1), (0), (by first | rfl | (simp; done) | (simp [*]; done)), (by first | rfl | (simp; done) | (simp [*]; done)), H', ⟨Nat.le_refl _⟩, ⟨by repeat (first | (with_reducible first | exact HB.out | apply below_alloc | apply pw_below_drewN | apply below_drew1) | exact HB.out)⟩⟩
 case round =>
  clear H'
  try clear p2
  obtain ⟨x1_1, x8_1, rfl, rfl, HA, HK1, HB⟩ := hrel
  cases gk with
  | zero => exact absurd HA.out (by simp [soundingsref07_part.l0])
  | succ k1 =>
   have H := HA.out
   clear HA
   simp only [soundingsref07_part.l0] at H
   have HC3 := Aside0.mk H
   clear H
   go_upto_region 3 with (fail)
   repeat (go_quiet (fail); go_upto_region 3 with (fail))
   go_cut [29] (fun v29 wc => ∃ (kq : Nat) (x29_2 : Bool), v29 = .bool x29_2 ∧ Aside0 (soundingsref07_part.j1 kq a0 x1_1 x8_1 a1 x29_2 = some (r1, r2, r3, r4)) ∧ Aside0 (kq ≤ k1) ∧ Aside0 (Below w.heap.size w wc))
   case first =>
    have H := HC3.out
    clear HC3
    by_cases c4 : x1_1 < (a0.size : Int)
    ·rw [if_pos c4] at H
     have c4b0 : decide (x1_1 < (a0.size : Int)) = true := decide_eq_true c4
     clear c4
     (first | rw [c4b0] | (simp only [i64_w, i32_w]; rw [c4b0]) | skip)
     by_cases c5 : 0 ≤ x1_1
     ·rw [if_pos c5] at H
      have c5b0 : decide (0 ≤ x1_1) = true := decide_eq_true c5
      clear c5
      by_cases c7 : (bt a0 x1_1) ≥ 48
      ·rw [if_pos c7] at H
       have c7b0 : decide (48 ≤ (bt a0 x1_1)) = true := decide_eq_true c7
       clear c7
       have H' := Aside0.mk H
       clear H
       have p6 : 0 ≤ (x1_1 : Int) := of_decide_eq_true (by first | (with_reducible assumption) | assumption)
       have q6 : x1_1 < (a0.size : Int) := of_decide_eq_true (by first | (with_reducible assumption) | assumption)
       have hx6 := bt_at a0 x1_1
       replace p6 := eq_true p6
       replace q6 := eq_true q6
       have p8 : 0 ≤ (x1_1 : Int) := of_decide_eq_true (by first | (with_reducible assumption) | assumption)
       have q8 : x1_1 < (a0.size : Int) := of_decide_eq_true (by first | (with_reducible assumption) | assumption)
       have hx8 := bt_at a0 x1_1
       replace p8 := eq_true p8
       replace q8 := eq_true q8
       go_wp2
       repeat (go_quiet (fail); try go_wp2)
       go_meet
       case rel => exact ⟨_, (decide ((bt a0 x1_1) ≤ 57)), (by first | rfl | (simp; done) | (simp [*]; done)), H', ⟨by have := HK1.out; first | omega | exact Nat.le_refl _⟩, ⟨by repeat (first | (with_reducible first | exact HB.out | apply below_alloc | apply pw_below_drewN | apply below_drew1) | exact HB.out)⟩⟩
      ·rw [if_neg c7] at H
       have c7b0 : decide (48 ≤ (bt a0 x1_1)) = false := decide_eq_false c7
       clear c7
       have H' := Aside0.mk H
       clear H
       have p6 : 0 ≤ (x1_1 : Int) := of_decide_eq_true (by first | (with_reducible assumption) | assumption)
       have q6 : x1_1 < (a0.size : Int) := of_decide_eq_true (by first | (with_reducible assumption) | assumption)
       have hx6 := bt_at a0 x1_1
       replace p6 := eq_true p6
       replace q6 := eq_true q6
       go_wp2
       repeat (go_quiet (fail); try go_wp2)
       go_meet
       case rel => exact ⟨_, (false), (by first | rfl | (simp; done) | (simp [*]; done)), H', ⟨by have := HK1.out; first | omega | exact Nat.le_refl _⟩, ⟨by repeat (first | (with_reducible first | exact HB.out | apply below_alloc | apply pw_below_drewN | apply below_drew1) | exact HB.out)⟩⟩
     ·rw [if_neg c5] at H
      exact absurd H (by simp)
    ·rw [if_neg c4] at H
     have c4b0 : decide (x1_1 < (a0.size : Int)) = false := decide_eq_false c4
     clear c4
     (first | rw [c4b0] | (simp only [i64_w, i32_w]; rw [c4b0]) | skip)
     have H' := Aside0.mk H
     clear H
     go_wp2
     repeat (go_quiet (fail); try go_wp2)
     go_meet
     case rel => exact ⟨_, (false), (by first | rfl | (simp; done) | (simp [*]; done)), H', ⟨by have := HK1.out; first | omega | exact Nat.le_refl _⟩, ⟨by repeat (first | (with_reducible first | exact HB.out | apply below_alloc | apply pw_below_drewN | apply below_drew1) | exact HB.out)⟩⟩
   case rest =>
    clear HC3
    try clear p2
    try clear c4
    try clear c4b0
    try clear c5
    try clear c5b0
    try clear p6
    try clear q6
    try clear hx6
    try clear c7
    try clear c7b0
    try clear p8
    try clear q8
    try clear hx8
    try clear p2
    try clear p6
    try clear p8
    try clear q6
    try clear q8
    obtain ⟨kq, x29_2, rfl, HA, HJ2, HB⟩ := hcut
    cases kq with
    | zero => exact absurd HA.out (by simp [soundingsref07_part.j1])
    | succ kj2 =>
     have H := HA.out
     clear HA
     simp only [soundingsref07_part.j1] at H
     by_cases c9 : x29_2 = true
     ·subst c9
      have H1 : (if 0 ≤ x1_1 then (if x1_1 < (a0.size : Int) then (if (wrap64 ((wrap64 (10 * x8_1)) + (((bt a0 x1_1) - 48) % 256))) > 35184372088833 then (soundingsref07_part.l0 kj2 a0 (wrap64 (x1_1 + 1)) 35184372088833 a1) else (soundingsref07_part.l0 kj2 a0 (wrap64 (x1_1 + 1)) (wrap64 ((wrap64 (10 * x8_1)) + (((bt a0 x1_1) - 48) % 256))) a1)) else (none)) else (none)) = some (r1, r2, r3, r4) := by rw [if_pos rfl] at H; exact H
      clear H
      have H := H1
      clear H1
      by_cases c10 : 0 ≤ x1_1
      ·rw [if_pos c10] at H
       have c10b0 : decide (0 ≤ x1_1) = true := decide_eq_true c10
       clear c10
       by_cases c11 : x1_1 < (a0.size : Int)
       ·rw [if_pos c11] at H
        have c11b0 : decide (x1_1 < (a0.size : Int)) = true := decide_eq_true c11
        clear c11
        by_cases c13 : (wrap64 ((wrap64 (10 * x8_1)) + (((bt a0 x1_1) - 48) % 256))) > 35184372088833
        ·rw [if_pos c13] at H
         have c13b0 : decide (35184372088833 < (wrap64 ((wrap64 (10 * x8_1)) + (((bt a0 x1_1) - 48) % 256)))) = true := decide_eq_true c13
         clear c13
         have H' := Aside0.mk H
         clear H
         have p12 : 0 ≤ (x1_1 : Int) := of_decide_eq_true (by first | (with_reducible assumption) | assumption)
         have q12 : x1_1 < (a0.size : Int) := of_decide_eq_true (by first | (with_reducible assumption) | assumption)
         have hx12 := bt_at a0 x1_1
         replace p12 := eq_true p12
         replace q12 := eq_true q12
         go_wp2
         repeat (go_quiet (fail); try go_wp2)
         go_roundg kj2
         case measure => have := HK1.out; have := HJ2.out; omega
         case rel => exact ⟨(wrap64 (x1_1 + 1)), (35184372088833), (by first | rfl | (simp; done) | (simp [*]; done)), (by first | rfl | (simp; done) | (simp [*]; done)), H', ⟨by have := HK1.out; have := HJ2.out; omega⟩, ⟨by repeat (first | (with_reducible first | exact HB.out | apply below_alloc | apply pw_below_drewN | apply below_drew1) | exact HB.out)⟩⟩
        ·rw [if_neg c13] at H
         have c13b0 : decide (35184372088833 < (wrap64 ((wrap64 (10 * x8_1)) + (((bt a0 x1_1) - 48) % 256)))) = false := decide_eq_false c13
         clear c13
         have H' := Aside0.mk H
         clear H
         have p12 : 0 ≤ (x1_1 : Int) := of_decide_eq_true (by first | (with_reducible assumption) | assumption)
         have q12 : x1_1 < (a0.size : Int) := of_decide_eq_true (by first | (with_reducible assumption) | assumption)
         have hx12 := bt_at a0 x1_1
         replace p12 := eq_true p12
         replace q12 := eq_true q12
         go_wp2
         repeat (go_quiet (fail); try go_wp2)
         go_roundg kj2
         case measure => have := HK1.out; have := HJ2.out; omega
         case rel => exact ⟨(wrap64 (x1_1 + 1)), (wrap64 ((wrap64 (10 * x8_1)) + (((bt a0 x1_1) - 48) % 256))), (by first | rfl | (simp; done) | (simp [*]; done)), (by first | rfl | (simp; done) | (simp [*]; done)), H', ⟨by have := HK1.out; have := HJ2.out; omega⟩, ⟨by repeat (first | (with_reducible first | exact HB.out | apply below_alloc | apply pw_below_drewN | apply below_drew1) | exact HB.out)⟩⟩
       ·rw [if_neg c11] at H
        exact absurd H (by simp)
      ·rw [if_neg c10] at H
       exact absurd H (by simp)
     ·replace c9 := Bool.eq_false_iff.mpr c9
      subst c9
      have H1 : (soundingsref07_part.l1 kj2 a0 x1_1 x8_1 a1 x1_1) = some (r1, r2, r3, r4) := by rw [if_neg (show ¬ (false = true) by decide)] at H; exact H
      clear H
      have H := H1
      clear H1
      have HC14 := Aside0.mk H
      clear H
      go_upto_block 2 with (fail)
      repeat (go_quiet (fail); go_upto_block 2 with (fail))
      go_cut [10] (fun v10 wc => ∃ (kq : Nat) (x10_13 : Int), v10 = .int .i64 x10_13 ∧ Aside0 (soundingsref07_part.j3 kq a0 x1_1 x8_1 a1 x10_13 = some (r1, r2, r3, r4)) ∧ Aside0 (kq ≤ kj2) ∧ Aside0 (Below w.heap.size w wc))
      case first =>
       have H := HC14.out
       clear HC14
       have H' := Aside0.mk H
       clear H
       go_wp2
       repeat (go_quiet (fail); try go_wp2)
       go_loopg [10] kj2 (fun kq v10 w' => ∃ (x10_3 : Int), v10 = .int .i64 x10_3 ∧ Aside0 (soundingsref07_part.l1 kq a0 x1_1 x8_1 a1 x10_3 = some (r1, r2, r3, r4)) ∧ Aside0 (kq ≤ kj2) ∧ Aside0 (Below w.heap.size w w'))
       case atStart => exact ⟨(x1_1), (by first | rfl | (simp; done) | (simp [*]; done)), H', ⟨Nat.le_refl _⟩, ⟨by repeat (first | (with_reducible first | exact HB.out | apply below_alloc | apply pw_below_drewN | apply below_drew1) | exact HB.out)⟩⟩
       case round =>
        clear H'
        try clear c1
        try clear p1
        try clear q1
        try clear hx1
        try clear p2
        try clear c4
        try clear c4b0
        try clear c5
        try clear c5b0
        try clear p6
        try clear q6
        try clear hx6
        try clear c7
        try clear c7b0
        try clear p8
        try clear q8
        try clear hx8
        try clear c9
        try clear c10
        try clear c10b0
        try clear c11
        try clear c11b0
        try clear p12
        try clear q12
        try clear hx12
        try clear c13
        try clear c13b0
        try clear p12
        try clear p2
        try clear p6
        try clear p8
        try clear q12
        try clear q6
        try clear q8
        obtain ⟨x10_3, rfl, HA, HK3, HB⟩ := hrel
        cases gk with
        | zero => exact absurd HA.out (by simp [soundingsref07_part.l1])
        | succ k3 =>
         have H := HA.out
         clear HA
         simp only [soundingsref07_part.l1] at H
         by_cases c15 : x10_3 < (a0.size : Int)
         ·rw [if_pos c15] at H
          have c15b0 : decide (x10_3 < (a0.size : Int)) = true := decide_eq_true c15
          clear c15
          (first | rw [c15b0] | (simp only [i64_w, i32_w]; rw [c15b0]) | skip)
          by_cases c16 : 0 ≤ x10_3
          ·rw [if_pos c16] at H
           have c16b0 : decide (0 ≤ x10_3) = true := decide_eq_true c16
           clear c16
           by_cases c18 : (bt a0 x10_3) < 48
           ·rw [if_pos c18] at H
            have c18b0 : decide ((bt a0 x10_3) < 48) = true := decide_eq_true c18
            clear c18
            have H' := Aside0.mk H
            clear H
            have p17 : 0 ≤ (x10_3 : Int) := of_decide_eq_true (by first | (with_reducible assumption) | assumption)
            have q17 : x10_3 < (a0.size : Int) := of_decide_eq_true (by first | (with_reducible assumption) | assumption)
            have hx17 := bt_at a0 x10_3
            replace p17 := eq_true p17
            replace q17 := eq_true q17
            go_wp2
            repeat (go_quiet (fail); try go_wp2)
            go_roundg k3
            case measure => have := HK1.out; have := HJ2.out; have := HK3.out; omega
            case rel => exact ⟨(wrap64 (x10_3 + 1)), (by first | rfl | (simp; done) | (simp [*]; done)), H', ⟨by have := HK1.out; have := HJ2.out; have := HK3.out; omega⟩, ⟨by repeat (first | (with_reducible first | exact HB.out | apply below_alloc | apply pw_below_drewN | apply below_drew1) | exact HB.out)⟩⟩
           ·rw [if_neg c18] at H
            have c18b0 : decide ((bt a0 x10_3) < 48) = false := decide_eq_false c18
            clear c18
            by_cases c20 : (bt a0 x10_3) > 57
            ·rw [if_pos c20] at H
             have c20b0 : decide (57 < (bt a0 x10_3)) = true := decide_eq_true c20
             clear c20
             have H' := Aside0.mk H
             clear H
             have p17 : 0 ≤ (x10_3 : Int) := of_decide_eq_true (by first | (with_reducible assumption) | assumption)
             have q17 : x10_3 < (a0.size : Int) := of_decide_eq_true (by first | (with_reducible assumption) | assumption)
             have hx17 := bt_at a0 x10_3
             replace p17 := eq_true p17
             replace q17 := eq_true q17
             have p19 : 0 ≤ (x10_3 : Int) := of_decide_eq_true (by first | (with_reducible assumption) | assumption)
             have q19 : x10_3 < (a0.size : Int) := of_decide_eq_true (by first | (with_reducible assumption) | assumption)
             have hx19 := bt_at a0 x10_3
             replace p19 := eq_true p19
             replace q19 := eq_true q19
             go_wp2
             repeat (go_quiet (fail); try go_wp2)
             go_roundg k3
             case measure => have := HK1.out; have := HJ2.out; have := HK3.out; omega
             case rel => exact ⟨(wrap64 (x10_3 + 1)), (by first | rfl | (simp; done) | (simp [*]; done)), H', ⟨by have := HK1.out; have := HJ2.out; have := HK3.out; omega⟩, ⟨by repeat (first | (with_reducible first | exact HB.out | apply below_alloc | apply pw_below_drewN | apply below_drew1) | exact HB.out)⟩⟩
            ·rw [if_neg c20] at H
             have c20b0 : decide (57 < (bt a0 x10_3)) = false := decide_eq_false c20
             clear c20
             have H' := Aside0.mk H
             clear H
             have p17 : 0 ≤ (x10_3 : Int) := of_decide_eq_true (by first | (with_reducible assumption) | assumption)
             have q17 : x10_3 < (a0.size : Int) := of_decide_eq_true (by first | (with_reducible assumption) | assumption)
             have hx17 := bt_at a0 x10_3
             replace p17 := eq_true p17
             replace q17 := eq_true q17
             have p19 : 0 ≤ (x10_3 : Int) := of_decide_eq_true (by first | (with_reducible assumption) | assumption)
             have q19 : x10_3 < (a0.size : Int) := of_decide_eq_true (by first | (with_reducible assumption) | assumption)
             have hx19 := bt_at a0 x10_3
             replace p19 := eq_true p19
             replace q19 := eq_true q19
             go_wp2
             repeat (go_quiet (fail); try go_wp2)
             go_meet
             case rel => exact ⟨_, (x10_3), (by first | rfl | (simp; done) | (simp [*]; done)), H', ⟨by have := HK1.out; have := HJ2.out; have := HK3.out; first | omega | exact Nat.le_refl _⟩, ⟨by repeat (first | (with_reducible first | exact HB.out | apply below_alloc | apply pw_below_drewN | apply below_drew1) | exact HB.out)⟩⟩
          ·rw [if_neg c16] at H
           exact absurd H (by simp)
         ·rw [if_neg c15] at H
          have c15b0 : decide (x10_3 < (a0.size : Int)) = false := decide_eq_false c15
          clear c15
          (first | rw [c15b0] | (simp only [i64_w, i32_w]; rw [c15b0]) | skip)
          have H' := Aside0.mk H
          clear H
          go_wp2
          repeat (go_quiet (fail); try go_wp2)
          go_meet
          case rel => exact ⟨_, (x10_3), (by first | rfl | (simp; done) | (simp [*]; done)), H', ⟨by have := HK1.out; have := HJ2.out; have := HK3.out; first | omega | exact Nat.le_refl _⟩, ⟨by repeat (first | (with_reducible first | exact HB.out | apply below_alloc | apply pw_below_drewN | apply below_drew1) | exact HB.out)⟩⟩
      case rest =>
       clear HC14
       try clear c1
       try clear p1
       try clear q1
       try clear hx1
       try clear c2
       try clear p2
       try clear c4
       try clear c4b0
       try clear c5
       try clear c5b0
       try clear p6
       try clear q6
       try clear hx6
       try clear c7
       try clear c7b0
       try clear p8
       try clear q8
       try clear hx8
       try clear c9
       try clear c10
       try clear c10b0
       try clear c11
       try clear c11b0
       try clear p12
       try clear q12
       try clear hx12
       try clear c13
       try clear c13b0
       try clear c15
       try clear c15b0
       try clear c16
       try clear c16b0
       try clear p17
       try clear q17
       try clear hx17
       try clear c18
       try clear c18b0
       try clear p19
       try clear q19
       try clear hx19
       try clear c20
       try clear c20b0
       try clear p1
       try clear p12
       try clear p17
       try clear p19
       try clear p2
       try clear p6
       try clear p8
       try clear q1
       try clear q12
       try clear q17
       try clear q19
       try clear q6
       try clear q8
       obtain ⟨kq, x10_13, rfl, HA, HJ13, HB⟩ := hcut
       cases kq with
       | zero => exact absurd HA.out (by simp [soundingsref07_part.j3])
       | succ kj13 =>
        have H := HA.out
        clear HA
        simp only [soundingsref07_part.j3] at H
        replace H := Option.bind_eq_some_iff.mp H
        obtain ⟨t321, A210, H⟩ := H
        replace H : (soundingsref07_part.l2 kj13 a0 x1_1 x8_1 a1 x10_13 t321 0) = some (r1, r2, r3, r4) := H
        have A21 := Aside0.mk A210
        clear A210
        have H' := Aside0.mk H
        clear H
        go_wp2_with (first | (go_at_call 117; (with_reducible refine (soundingsref07_Units.calls  t321 _ A21.out).mono ?_); rintro e w22 ⟨v322, rfl, ho0, hb⟩; have n0_ := Aside0.mk (Kd.R_lower ho0 (below_size (by repeat (first | (with_reducible first | exact HB.out | apply below_alloc | apply pw_below_drewN | apply below_drew1) | exact HB.out)))); have n1_ := Aside0.mk (below_step (by repeat (first | (with_reducible first | exact HB.out | apply below_alloc | apply pw_below_drewN | apply below_drew1) | exact HB.out)) hb); clear HB; have HO323 := n0_; have HB := n1_; clear n0_ n1_; (try clear hb); (try clear hb2); (try clear hk); (try clear hi); (try clear ho0)))
        repeat (go_quiet (first | (go_at_call 117; (with_reducible refine (soundingsref07_Units.calls  t321 _ A21.out).mono ?_); rintro e w22 ⟨v322, rfl, ho0, hb⟩; have n0_ := Aside0.mk (Kd.R_lower ho0 (below_size (by repeat (first | (with_reducible first | exact HB.out | apply below_alloc | apply pw_below_drewN | apply below_drew1) | exact HB.out)))); have n1_ := Aside0.mk (below_step (by repeat (first | (with_reducible first | exact HB.out | apply below_alloc | apply pw_below_drewN | apply below_drew1) | exact HB.out)) hb); clear HB; have HO323 := n0_; have HB := n1_; clear n0_ n1_; (try clear hb); (try clear hb2); (try clear hk); (try clear hi); (try clear ho0))); try go_wp2_with (first | (go_at_call 117; (with_reducible refine (soundingsref07_Units.calls  t321 _ A21.out).mono ?_); rintro e w22 ⟨v322, rfl, ho0, hb⟩; have n0_ := Aside0.mk (Kd.R_lower ho0 (below_size (by repeat (first | (with_reducible first | exact HB.out | apply below_alloc | apply pw_below_drewN | apply below_drew1) | exact HB.out)))); have n1_ := Aside0.mk (below_step (by repeat (first | (with_reducible first | exact HB.out | apply below_alloc | apply pw_below_drewN | apply below_drew1) | exact HB.out)) hb); clear HB; have HO323 := n0_; have HB := n1_; clear n0_ n1_; (try clear hb); (try clear hb2); (try clear hk); (try clear hi); (try clear ho0))))
        go_loopg [12] kj13 (fun kq v12 w' => ∃ (x12_4 : Int), v12 = .int .i64 x12_4 ∧ Aside0 (soundingsref07_part.l2 kq a0 x1_1 x8_1 a1 x10_13 t321 x12_4 = some (r1, r2, r3, r4)) ∧ Aside0 (kq ≤ kj13) ∧ Aside0 (Kd.R Kd.string 9 w' w.heap.size (fun _ => True) v322 t321) ∧ Aside0 (Below w.heap.size w w'))
        case atStart => exact ⟨(0), (by first | rfl | (simp; done) | (simp [*]; done)), H', ⟨Nat.le_refl _⟩, ⟨by (with_reducible repeat (first | apply Kd.R_alloc | apply Kd.R_drewN | apply Kd.R_drew)); exact HO323.out⟩, ⟨by repeat (first | (with_reducible first | exact HB.out | apply below_alloc | apply pw_below_drewN | apply below_drew1) | exact HB.out)⟩⟩
        case round =>
         clear H'
         try clear c1
         try clear p1
         try clear q1
         try clear hx1
         try clear c2
         try clear p2
         try clear c4
         try clear c4b0
         try clear c5
         try clear c5b0
         try clear p6
         try clear q6
         try clear hx6
         try clear c7
         try clear c7b0
         try clear p8
         try clear q8
         try clear hx8
         try clear c9
         try clear c10
         try clear c10b0
         try clear c11
         try clear c11b0
         try clear p12
         try clear q12
         try clear hx12
         try clear c13
         try clear c13b0
         try clear c15
         try clear c15b0
         try clear c16
         try clear c16b0
         try clear p17
         try clear q17
         try clear hx17
         try clear c18
         try clear c18b0
         try clear p19
         try clear q19
         try clear hx19
         try clear c20
         try clear c20b0
         try clear p1
         try clear p12
         try clear p17
         try clear p19
         try clear p2
         try clear p6
         try clear p8
         try clear q1
         try clear q12
         try clear q17
         try clear q19
         try clear q6
         try clear q8
         obtain ⟨x12_4, rfl, HA, HK4, HO_11, HB⟩ := hrel
         cases gk with
         | zero => exact absurd HA.out (by simp [soundingsref07_part.l2])
         | succ k4 =>
          have H := HA.out
          clear HA
          simp only [soundingsref07_part.l2] at H
          by_cases c23 : x12_4 < (t321.length : Int)
          ·rw [if_pos c23] at H
           have c23b0 : decide (x12_4 < (t321.length : Int)) = true := decide_eq_true c23
           clear c23
           by_cases c24 : x1_1 > a1
           ·rw [if_pos c24] at H
            have c24b0 : decide (a1 < x1_1) = true := decide_eq_true c24
            clear c24
            by_cases c25 : 0 ≤ x1_1
            ·rw [if_pos c25] at H
             have c25b0 := eq_true c25
             have c25b1 : decide (0 ≤ x1_1) = true := decide_eq_true c25
             clear c25
             by_cases c26 : x1_1 ≤ x10_13
             ·rw [if_pos c26] at H
              have c26b0 := eq_true c26
              have c26b1 : decide (x1_1 ≤ x10_13) = true := decide_eq_true c26
              clear c26
              by_cases c27 : x10_13 ≤ (a0.size : Int)
              ·rw [if_pos c27] at H
               have c27b0 := eq_true c27
               have c27b1 : decide (x10_13 ≤ (a0.size : Int)) = true := decide_eq_true c27
               clear c27
               by_cases c28 : 0 ≤ x12_4
               ·rw [if_pos c28] at H
                have c28b0 : decide (0 ≤ x12_4) = true := decide_eq_true c28
                clear c28
                by_cases c29 : (a0.extract (x1_1 : Int).toNat (x10_13 : Int).toNat).toList = (rdOf ByteArray.empty t321 x12_4).toList
                ·rw [if_pos c29] at H
                 have c29b0 : ((a0.extract (x1_1 : Int).toNat (x10_13 : Int).toNat).toList == (rdOf ByteArray.empty t321 x12_4).toList) = true := beq_iff_eq.mpr c29
                 have c29b1 : ((a0.extract (x1_1 : Int).toNat (x10_13 : Int).toNat).toList != (rdOf ByteArray.empty t321 x12_4).toList) = false := bne_eq_false_iff_eq.mpr c29
                 clear c29
                 simp only [Option.some.injEq, Prod.mk.injEq] at H
                 obtain ⟨rfl, rfl, rfl, rfl⟩ := H
                 obtain ⟨Ao30, co30, eo30⟩ := Kd.R_slice HO_11.out
                 subst eo30
                 have p324 : 0 ≤ (x12_4 : Int) := of_decide_eq_true (by first | (with_reducible assumption) | assumption)
                 have q324 : x12_4 < (t321.length : Int) := of_decide_eq_true (by first | (with_reducible assumption) | assumption)
                 obtain ⟨ad324, e324, hx324_0⟩ := Kd.at_string (Kd.R_reads' HO_11.out).2.2 x12_4 p324 q324
                 cases e324
                 replace p324 := eq_true p324
                 replace q324 := eq_true q324
                 go_wp2
                 repeat (go_quiet (fail); try go_wp2)
                 refine bodyPost_ret (results_list (rs := [.tmp 4, .tmp 5, .tmp 6, .tmp 7]) rfl (by simp) (.tmp (.tmp (.tmp (.tmp .nil))))) rfl ?_
                 exact ⟨by first | rfl | (simp [errW_none, errW_some] <;> rfl) | (simp [*, errW_none, errW_some] <;> rfl), by repeat (first | (with_reducible first | exact HB.out | apply below_alloc | apply pw_below_drewN | apply below_drew1) | exact HB.out)⟩
                ·rw [if_neg c29] at H
                 have c29b0 : ((a0.extract (x1_1 : Int).toNat (x10_13 : Int).toNat).toList == (rdOf ByteArray.empty t321 x12_4).toList) = false := beq_eq_false_iff_ne.mpr c29
                 have c29b1 : ((a0.extract (x1_1 : Int).toNat (x10_13 : Int).toNat).toList != (rdOf ByteArray.empty t321 x12_4).toList) = true := bne_iff_ne.mpr c29
                 have H' := Aside0.mk H
                 clear H
                 obtain ⟨Ao31, co31, eo31⟩ := Kd.R_slice HO_11.out
                 subst eo31
                 have p324 : 0 ≤ (x12_4 : Int) := of_decide_eq_true (by first | (with_reducible assumption) | assumption)
                 have q324 : x12_4 < (t321.length : Int) := of_decide_eq_true (by first | (with_reducible assumption) | assumption)
                 obtain ⟨ad324, e324, hx324_0⟩ := Kd.at_string (Kd.R_reads' HO_11.out).2.2 x12_4 p324 q324
                 cases e324
                 replace p324 := eq_true p324
                 replace q324 := eq_true q324
                 go_wp2
                 repeat (go_quiet (fail); try go_wp2)
                 go_roundg k4
                 case measure => have := HK1.out; have := HJ2.out; have := HJ13.out; have := HK4.out; omega
                 case rel => exact ⟨(wrap64 (x12_4 + 1)), (by first | rfl | (simp; done) | (simp [*]; done)), H', ⟨by have := HK1.out; have := HJ2.out; have := HJ13.out; have := HK4.out; omega⟩, ⟨by (with_reducible repeat (first | apply Kd.R_alloc | apply Kd.R_drewN | apply Kd.R_drew)); exact HO_11.out⟩, ⟨by repeat (first | (with_reducible first | exact HB.out | apply below_alloc | apply pw_below_drewN | apply below_drew1) | exact HB.out)⟩⟩
               ·rw [if_neg c28] at H
                exact absurd H (by simp)
              ·rw [if_neg c27] at H
               exact absurd H (by simp)
             ·rw [if_neg c26] at H
              exact absurd H (by simp)
            ·rw [if_neg c25] at H
             exact absurd H (by simp)
           ·rw [if_neg c24] at H
            have c24b0 : decide (a1 < x1_1) = false := decide_eq_false c24
            clear c24
            have H' := Aside0.mk H
            clear H
            obtain ⟨Ao32, co32, eo32⟩ := Kd.R_slice HO_11.out
            subst eo32
            go_wp2
            repeat (go_quiet (fail); try go_wp2)
            go_roundg k4
            case measure => have := HK1.out; have := HJ2.out; have := HJ13.out; have := HK4.out; omega
            case rel => exact ⟨(wrap64 (x12_4 + 1)), (by first | rfl | (simp; done) | (simp [*]; done)), H', ⟨by have := HK1.out; have := HJ2.out; have := HJ13.out; have := HK4.out; omega⟩, ⟨by (with_reducible repeat (first | apply Kd.R_alloc | apply Kd.R_drewN | apply Kd.R_drew)); exact HO_11.out⟩, ⟨by repeat (first | (with_reducible first | exact HB.out | apply below_alloc | apply pw_below_drewN | apply below_drew1) | exact HB.out)⟩⟩
          ·rw [if_neg c23] at H
           have c23b0 : decide (x12_4 < (t321.length : Int)) = false := decide_eq_false c23
           clear c23
           simp only [Option.some.injEq, Prod.mk.injEq] at H
           obtain ⟨rfl, rfl, rfl, rfl⟩ := H
           obtain ⟨Ao33, co33, eo33⟩ := Kd.R_slice HO_11.out
           subst eo33
           go_wp2
           repeat (go_quiet (fail); try go_wp2)
           refine bodyPost_ret (results_list (rs := [.tmp 4, .tmp 5, .tmp 6, .tmp 7]) rfl (by simp) (.tmp (.tmp (.tmp (.tmp .nil))))) rfl ?_
           exact ⟨by first | rfl | (simp [errW_none, errW_some] <;> rfl) | (simp [*, errW_none, errW_some] <;> rfl), by repeat (first | (with_reducible first | exact HB.out | apply below_alloc | apply pw_below_drewN | apply below_drew1) | exact HB.out)⟩

end Go.Proofs.YtjleceekccehoaaGreatDoor.Pr
