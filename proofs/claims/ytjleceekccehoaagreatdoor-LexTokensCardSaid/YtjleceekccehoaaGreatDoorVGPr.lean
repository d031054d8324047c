/- Texts of this session, cut down to what one claim needs and joined: PrSoundingsref01In, PrSoundingsref01Rune, PrSoundingsref01IsText. -/
import Derived.Test.YtjleceekccehoaaGreatDoorVGJ0
section
-- Written by a program of this session (wip/hook.py) out of the translation. Not trusted: Lean checks it.
namespace Go.Proofs.YtjleceekccehoaaGreatDoor.Pr
open Go.RowKit Go.Proofs.YtjleceekccehoaaGreatDoorW.PrintWords Go.Proofs.YtjleceekccehoaaGreatDoorW.PrintLast Go.Proofs.YtjleceekccehoaaGreatDoorW.PrintMore
attribute [local go_sem] max2_int min2_int max_two min_two max_three min_three max_four min_four   -- for this text's walks alone
set_option linter.unusedVariables false
set_option linter.unusedSimpArgs false

/-! ### soundingsref01_in: function 149 -/
def soundingsref01_in.f (a0 : ByteArray) (a1 : Int) (a2 : Int) (a3 : Int) : Option (Bool) := if a1 < (a0.size : Int) then (if 0 ≤ a1 then (if (bt a0 a1) ≥ a2 then (some (decide ((bt a0 a1) ≤ a3))) else (some false)) else (none)) else (some false)
set_option maxHeartbeats 8000000 in
set_option maxRecDepth 100000 in
theorem soundingsref01_in.calls (a0 : ByteArray) (a1 : Int) (a2 : Int) (a3 : Int) (r : Bool) (w : World) (h : soundingsref01_in.f a0 a1 a2 a3 = some r) :
  Calls Tryz.prog 149 #[.string a0, .int .i64 a1, .int .u8 a2, .int .u8 a3] w fun e w' => e = .returned (.bool r) ∧ Drawn0 w w' := by
 have H : (if a1 < (a0.size : Int) then (if 0 ≤ a1 then (if (bt a0 a1) ≥ a2 then (some (decide ((bt a0 a1) ≤ a3))) else (some false)) else (none)) else (some false)) = some r := h
 clear h
 by_cases c5 : a1 < (a0.size : Int)
 ·rw [if_pos c5] at H
  have c5b0 : decide (a1 < (a0.size : Int)) = true := decide_eq_true c5
  clear c5
  by_cases c6 : 0 ≤ a1
  ·rw [if_pos c6] at H
   have c6b0 : decide (0 ≤ a1) = true := decide_eq_true c6
   clear c6
   by_cases c8 : (bt a0 a1) ≥ a2
   ·rw [if_pos c8] at H
    have c8b0 : decide (a2 ≤ (bt a0 a1)) = true := decide_eq_true c8
    clear c8
    obtain rfl := Option.some.inj H
    have p7 : 0 ≤ (a1 : Int) := of_decide_eq_true (by first | (with_reducible assumption) | assumption)
    have q7 : a1 < (a0.size : Int) := of_decide_eq_true (by first | (with_reducible assumption) | assumption)
    have hx7 := bt_at a0 a1
    replace p7 := eq_true p7
    replace q7 := eq_true q7
    have p9 : 0 ≤ (a1 : Int) := of_decide_eq_true (by first | (with_reducible assumption) | assumption)
    have q9 : a1 < (a0.size : Int) := of_decide_eq_true (by first | (with_reducible assumption) | assumption)
    have hx9 := bt_at a0 a1
    replace p9 := eq_true p9
    replace q9 := eq_true q9
    go_enter Tryz.func149, Tryz.ntmps149
    go_wp2
    go_ret
    exact ⟨by first | rfl | (simp; done) | (simp [*]; done), by repeat (first | exact Drawn0.refl _ | apply Drawn0.step)⟩
   ·rw [if_neg c8] at H
    have c8b0 : decide (a2 ≤ (bt a0 a1)) = false := decide_eq_false c8
    clear c8
    obtain rfl := Option.some.inj H
    have p7 : 0 ≤ (a1 : Int) := of_decide_eq_true (by first | (with_reducible assumption) | assumption)
    have q7 : a1 < (a0.size : Int) := of_decide_eq_true (by first | (with_reducible assumption) | assumption)
    have hx7 := bt_at a0 a1
    replace p7 := eq_true p7
    replace q7 := eq_true q7
    go_enter Tryz.func149, Tryz.ntmps149
    go_wp2
    go_ret
    exact ⟨by first | rfl | (simp; done) | (simp [*]; done), by repeat (first | exact Drawn0.refl _ | apply Drawn0.step)⟩
  ·rw [if_neg c6] at H
   exact absurd H (by simp)
 ·rw [if_neg c5] at H
  have c5b0 : decide (a1 < (a0.size : Int)) = false := decide_eq_false c5
  clear c5
  obtain rfl := Option.some.inj H
  go_enter Tryz.func149, Tryz.ntmps149
  go_wp2
  go_ret
  exact ⟨by first | rfl | (simp; done) | (simp [*]; done), by repeat (first | exact Drawn0.refl _ | apply Drawn0.step)⟩

end Go.Proofs.YtjleceekccehoaaGreatDoor.Pr
end

section
-- Written by a program of this session (wip/hook.py) out of the translation. Not trusted: Lean checks it.
namespace Go.Proofs.YtjleceekccehoaaGreatDoor.Pr
open Go.RowKit Go.Proofs.YtjleceekccehoaaGreatDoorW.PrintWords Go.Proofs.YtjleceekccehoaaGreatDoorW.PrintLast Go.Proofs.YtjleceekccehoaaGreatDoorW.PrintMore
attribute [local go_sem] max2_int min2_int max_two min_two max_three min_three max_four min_four   -- for this text's walks alone
set_option linter.unusedVariables false
set_option linter.unusedSimpArgs false

/-! ### soundingsref01_Rune: function 118 -/
mutual
def soundingsref01_Rune.j0 : Nat → ByteArray → Int → Int → Bool → Option (Int)
 | 0, _, _, _, _ => none
 | k + 1, x0, x1, x5, x16 => if x16 = true then (some 2) else (if x5 ≥ 224 then (soundingsref01_Rune.j1 k x0 x1 x5 (decide (x5 < 240))) else (soundingsref01_Rune.j1 k x0 x1 x5 false))
def soundingsref01_Rune.j1 : Nat → ByteArray → Int → Int → Bool → Option (Int)
 | 0, _, _, _, _ => none
 | k + 1, x0, x1, x5, x29 => if x29 = true then (if x5 = 224 then (soundingsref01_Rune.j2 k x0 x1 x5 160 191) else (soundingsref01_Rune.j2 k x0 x1 x5 128 191)) else (if x5 ≥ 240 then (soundingsref01_Rune.j4 k x0 x1 x5 (decide (x5 < 245))) else (soundingsref01_Rune.j4 k x0 x1 x5 false))
def soundingsref01_Rune.j2 : Nat → ByteArray → Int → Int → Int → Int → Option (Int)
 | 0, _, _, _, _, _ => none
 | k + 1, x0, x1, x5, x6, x7 => if x5 = 237 then (soundingsref01_Rune.j3 k x0 x1 x6 159) else (soundingsref01_Rune.j3 k x0 x1 x6 x7)
def soundingsref01_Rune.j3 : Nat → ByteArray → Int → Int → Int → Option (Int)
 | 0, _, _, _, _ => none
 | k + 1, x0, x1, x6, x7 => (soundingsref01_in.f x0 (wrap64 (x1 + 1)) x6 x7).bind fun t341 => (if t341 = true then ((soundingsref01_in.f x0 (wrap64 (x1 + 2)) 128 191).bind fun t342 => (if t342 = true then (some 3) else (some 0))) else (some 0))
def soundingsref01_Rune.j4 : Nat → ByteArray → Int → Int → Bool → Option (Int)
 | 0, _, _, _, _ => none
 | k + 1, x0, x1, x5, x52 => if x52 = true then (if x5 = 240 then (soundingsref01_Rune.j5 k x0 x1 x5 144 191) else (soundingsref01_Rune.j5 k x0 x1 x5 128 191)) else (some 0)
def soundingsref01_Rune.j5 : Nat → ByteArray → Int → Int → Int → Int → Option (Int)
 | 0, _, _, _, _, _ => none
 | k + 1, x0, x1, x5, x8, x9 => if x5 = 244 then (soundingsref01_Rune.j6 k x0 x1 x8 143) else (soundingsref01_Rune.j6 k x0 x1 x8 x9)
def soundingsref01_Rune.j6 : Nat → ByteArray → Int → Int → Int → Option (Int)
 | 0, _, _, _, _ => none
 | k + 1, x0, x1, x8, x9 => (soundingsref01_in.f x0 (wrap64 (x1 + 1)) x8 x9).bind fun t343 => (if t343 = true then ((soundingsref01_in.f x0 (wrap64 (x1 + 2)) 128 191).bind fun t344 => (if t344 = true then ((soundingsref01_in.f x0 (wrap64 (x1 + 3)) 128 191).bind fun t345 => (if t345 = true then (some 4) else (some 0))) else (some 0))) else (some 0))
end
def soundingsref01_Rune.f (k : Nat) (a0 : ByteArray) (a1 : Int) : Option (Int) := if 0 ≤ a1 then (if a1 < (a0.size : Int) then (if (bt a0 a1) < 128 then (some 1) else (if (bt a0 a1) ≥ 194 then (if (bt a0 a1) < 224 then ((soundingsref01_in.f a0 (wrap64 (a1 + 1)) 128 191).bind fun t340 => (soundingsref01_Rune.j0 k a0 a1 (bt a0 a1) t340)) else (soundingsref01_Rune.j0 k a0 a1 (bt a0 a1) false)) else (soundingsref01_Rune.j0 k a0 a1 (bt a0 a1) false))) else (none)) else (none)
theorem soundingsref01_Rune.mono_l : ∀ k, (∀ y0 y1 y2 y3, LeO (soundingsref01_Rune.j0 k y0 y1 y2 y3) (soundingsref01_Rune.j0 (k + 1) y0 y1 y2 y3)) ∧ (∀ y0 y1 y2 y3, LeO (soundingsref01_Rune.j1 k y0 y1 y2 y3) (soundingsref01_Rune.j1 (k + 1) y0 y1 y2 y3)) ∧ (∀ y0 y1 y2 y3 y4, LeO (soundingsref01_Rune.j2 k y0 y1 y2 y3 y4) (soundingsref01_Rune.j2 (k + 1) y0 y1 y2 y3 y4)) ∧ (∀ y0 y1 y2 y3, LeO (soundingsref01_Rune.j3 k y0 y1 y2 y3) (soundingsref01_Rune.j3 (k + 1) y0 y1 y2 y3)) ∧ (∀ y0 y1 y2 y3, LeO (soundingsref01_Rune.j4 k y0 y1 y2 y3) (soundingsref01_Rune.j4 (k + 1) y0 y1 y2 y3)) ∧ (∀ y0 y1 y2 y3 y4, LeO (soundingsref01_Rune.j5 k y0 y1 y2 y3 y4) (soundingsref01_Rune.j5 (k + 1) y0 y1 y2 y3 y4)) ∧ (∀ y0 y1 y2 y3, LeO (soundingsref01_Rune.j6 k y0 y1 y2 y3) (soundingsref01_Rune.j6 (k + 1) y0 y1 y2 y3))
 | 0 => ⟨fun _ _ _ _ r h => by simp [soundingsref01_Rune.j0] at h, fun _ _ _ _ r h => by simp [soundingsref01_Rune.j1] at h, fun _ _ _ _ _ r h => by simp [soundingsref01_Rune.j2] at h, fun _ _ _ _ r h => by simp [soundingsref01_Rune.j3] at h, fun _ _ _ _ r h => by simp [soundingsref01_Rune.j4] at h, fun _ _ _ _ _ r h => by simp [soundingsref01_Rune.j5] at h, fun _ _ _ _ r h => by simp [soundingsref01_Rune.j6] at h⟩
 | k + 1 => by
  obtain ⟨ih0, ih1, ih2, ih3, ih4, ih5, ih6⟩ := soundingsref01_Rune.mono_l k
  refine ⟨?_, ?_, ?_, ?_, ?_, ?_, ?_⟩
  ·intro y0 y1 y2 y3
   unfold soundingsref01_Rune.j0
   repeat' first
   | (with_reducible exact ih0 _ _ _ _)
   | (with_reducible exact ih1 _ _ _ _)
   | (with_reducible exact ih2 _ _ _ _ _)
   | (with_reducible exact ih3 _ _ _ _)
   | (with_reducible exact ih4 _ _ _ _)
   | (with_reducible exact ih5 _ _ _ _ _)
   | (with_reducible exact ih6 _ _ _ _)
   | (with_reducible exact LeO.refl _)
   | (with_reducible exact LeO.none _)
   | (with_reducible refine LeO.ite ?_ ?_)
   | (with_reducible refine LeO.bind ?_ (fun _ => ?_))
   | exact ih0 _ _ _ _
   | exact ih1 _ _ _ _
   | exact ih2 _ _ _ _ _
   | exact ih3 _ _ _ _
   | exact ih4 _ _ _ _
   | exact ih5 _ _ _ _ _
   | exact ih6 _ _ _ _
   | exact LeO.none _
   | refine LeO.ite ?_ ?_
   | refine LeO.bind ?_ (fun _ => ?_)
  ·intro y0 y1 y2 y3
   unfold soundingsref01_Rune.j1
   repeat' first
   | (with_reducible exact ih0 _ _ _ _)
   | (with_reducible exact ih1 _ _ _ _)
   | (with_reducible exact ih2 _ _ _ _ _)
   | (with_reducible exact ih3 _ _ _ _)
   | (with_reducible exact ih4 _ _ _ _)
   | (with_reducible exact ih5 _ _ _ _ _)
   | (with_reducible exact ih6 _ _ _ _)
   | (with_reducible exact LeO.refl _)
   | (with_reducible exact LeO.none _)
   | (with_reducible refine LeO.ite ?_ ?_)
   | (with_reducible refine LeO.bind ?_ (fun _ => ?_))
   | exact ih0 _ _ _ _
   | exact ih1 _ _ _ _
   | exact ih2 _ _ _ _ _
   | exact ih3 _ _ _ _
   | exact ih4 _ _ _ _
   | exact ih5 _ _ _ _ _
   | exact ih6 _ _ _ _
   | exact LeO.none _
   | refine LeO.ite ?_ ?_
   | refine LeO.bind ?_ (fun _ => ?_)
  ·intro y0 y1 y2 y3 y4
   unfold soundingsref01_Rune.j2
   repeat' first
   | (with_reducible exact ih0 _ _ _ _)
   | (with_reducible exact ih1 _ _ _ _)
   | (with_reducible exact ih2 _ _ _ _ _)
   | (with_reducible exact ih3 _ _ _ _)
   | (with_reducible exact ih4 _ _ _ _)
   | (with_reducible exact ih5 _ _ _ _ _)
   | (with_reducible exact ih6 _ _ _ _)
   | (with_reducible exact LeO.refl _)
   | (with_reducible exact LeO.none _)
   | (with_reducible refine LeO.ite ?_ ?_)
   | (with_reducible refine LeO.bind ?_ (fun _ => ?_))
   | exact ih0 _ _ _ _
   | exact ih1 _ _ _ _
   | exact ih2 _ _ _ _ _
   | exact ih3 _ _ _ _
   | exact ih4 _ _ _ _
   | exact ih5 _ _ _ _ _
   | exact ih6 _ _ _ _
   | exact LeO.none _
   | refine LeO.ite ?_ ?_
   | refine LeO.bind ?_ (fun _ => ?_)
  ·intro y0 y1 y2 y3
   unfold soundingsref01_Rune.j3
   repeat' first
   | (with_reducible exact ih0 _ _ _ _)
   | (with_reducible exact ih1 _ _ _ _)
   | (with_reducible exact ih2 _ _ _ _ _)
   | (with_reducible exact ih3 _ _ _ _)
   | (with_reducible exact ih4 _ _ _ _)
   | (with_reducible exact ih5 _ _ _ _ _)
   | (with_reducible exact ih6 _ _ _ _)
   | (with_reducible exact LeO.refl _)
   | (with_reducible exact LeO.none _)
   | (with_reducible refine LeO.ite ?_ ?_)
   | (with_reducible refine LeO.bind ?_ (fun _ => ?_))
   | exact ih0 _ _ _ _
   | exact ih1 _ _ _ _
   | exact ih2 _ _ _ _ _
   | exact ih3 _ _ _ _
   | exact ih4 _ _ _ _
   | exact ih5 _ _ _ _ _
   | exact ih6 _ _ _ _
   | exact LeO.none _
   | refine LeO.ite ?_ ?_
   | refine LeO.bind ?_ (fun _ => ?_)
  ·intro y0 y1 y2 y3
   unfold soundingsref01_Rune.j4
   repeat' first
   | (with_reducible exact ih0 _ _ _ _)
   | (with_reducible exact ih1 _ _ _ _)
   | (with_reducible exact ih2 _ _ _ _ _)
   | (with_reducible exact ih3 _ _ _ _)
   | (with_reducible exact ih4 _ _ _ _)
   | (with_reducible exact ih5 _ _ _ _ _)
   | (with_reducible exact ih6 _ _ _ _)
   | (with_reducible exact LeO.refl _)
   | (with_reducible exact LeO.none _)
   | (with_reducible refine LeO.ite ?_ ?_)
   | (with_reducible refine LeO.bind ?_ (fun _ => ?_))
   | exact ih0 _ _ _ _
   | exact ih1 _ _ _ _
   | exact ih2 _ _ _ _ _
   | exact ih3 _ _ _ _
   | exact ih4 _ _ _ _
   | exact ih5 _ _ _ _ _
   | exact ih6 _ _ _ _
   | exact LeO.none _
   | refine LeO.ite ?_ ?_
   | refine LeO.bind ?_ (fun _ => ?_)
  ·intro y0 y1 y2 y3 y4
   unfold soundingsref01_Rune.j5
   repeat' first
   | (with_reducible exact ih0 _ _ _ _)
   | (with_reducible exact ih1 _ _ _ _)
   | (with_reducible exact ih2 _ _ _ _ _)
   | (with_reducible exact ih3 _ _ _ _)
   | (with_reducible exact ih4 _ _ _ _)
   | (with_reducible exact ih5 _ _ _ _ _)
   | (with_reducible exact ih6 _ _ _ _)
   | (with_reducible exact LeO.refl _)
   | (with_reducible exact LeO.none _)
   | (with_reducible refine LeO.ite ?_ ?_)
   | (with_reducible refine LeO.bind ?_ (fun _ => ?_))
   | exact ih0 _ _ _ _
   | exact ih1 _ _ _ _
   | exact ih2 _ _ _ _ _
   | exact ih3 _ _ _ _
   | exact ih4 _ _ _ _
   | exact ih5 _ _ _ _ _
   | exact ih6 _ _ _ _
   | exact LeO.none _
   | refine LeO.ite ?_ ?_
   | refine LeO.bind ?_ (fun _ => ?_)
  ·intro y0 y1 y2 y3
   unfold soundingsref01_Rune.j6
   repeat' first
   | (with_reducible exact ih0 _ _ _ _)
   | (with_reducible exact ih1 _ _ _ _)
   | (with_reducible exact ih2 _ _ _ _ _)
   | (with_reducible exact ih3 _ _ _ _)
   | (with_reducible exact ih4 _ _ _ _)
   | (with_reducible exact ih5 _ _ _ _ _)
   | (with_reducible exact ih6 _ _ _ _)
   | (with_reducible exact LeO.refl _)
   | (with_reducible exact LeO.none _)
   | (with_reducible refine LeO.ite ?_ ?_)
   | (with_reducible refine LeO.bind ?_ (fun _ => ?_))
   | exact ih0 _ _ _ _
   | exact ih1 _ _ _ _
   | exact ih2 _ _ _ _ _
   | exact ih3 _ _ _ _
   | exact ih4 _ _ _ _
   | exact ih5 _ _ _ _ _
   | exact ih6 _ _ _ _
   | exact LeO.none _
   | refine LeO.ite ?_ ?_
   | refine LeO.bind ?_ (fun _ => ?_)
theorem soundingsref01_Rune.mono : ∀ a0 a1 k, LeO (soundingsref01_Rune.f k a0 a1) (soundingsref01_Rune.f (k + 1) a0 a1) := by
 intro a0 a1 k
 obtain ⟨ih0, ih1, ih2, ih3, ih4, ih5, ih6⟩ := soundingsref01_Rune.mono_l k
 unfold soundingsref01_Rune.f
 repeat' first
   | (with_reducible exact ih0 _ _ _ _)
   | (with_reducible exact ih1 _ _ _ _)
   | (with_reducible exact ih2 _ _ _ _ _)
   | (with_reducible exact ih3 _ _ _ _)
   | (with_reducible exact ih4 _ _ _ _)
   | (with_reducible exact ih5 _ _ _ _ _)
   | (with_reducible exact ih6 _ _ _ _)
   | (with_reducible exact LeO.refl _)
   | (with_reducible exact LeO.none _)
   | (with_reducible refine LeO.ite ?_ ?_)
   | (with_reducible refine LeO.bind ?_ (fun _ => ?_))
   | exact ih0 _ _ _ _
   | exact ih1 _ _ _ _
   | exact ih2 _ _ _ _ _
   | exact ih3 _ _ _ _
   | exact ih4 _ _ _ _
   | exact ih5 _ _ _ _ _
   | exact ih6 _ _ _ _
   | exact LeO.none _
   | refine LeO.ite ?_ ?_
   | refine LeO.bind ?_ (fun _ => ?_)
set_option maxHeartbeats 8000000 in
set_option maxRecDepth 100000 in
theorem soundingsref01_Rune.calls (k : Nat) (a0 : ByteArray) (a1 : Int) (r : Int) (w : World) (h : soundingsref01_Rune.f k a0 a1 = some r) :
  Calls Tryz.prog 118 #[.string a0, .int .i64 a1] w fun e w' => e = .returned (.int .i64 r) ∧ Drawn0 w w' := by
 have H : (if 0 ≤ a1 then (if a1 < (a0.size : Int) then (if (bt a0 a1) < 128 then (some 1) else (if (bt a0 a1) ≥ 194 then (if (bt a0 a1) < 224 then ((soundingsref01_in.f a0 (wrap64 (a1 + 1)) 128 191).bind fun t340 => (soundingsref01_Rune.j0 k a0 a1 (bt a0 a1) t340)) else (soundingsref01_Rune.j0 k a0 a1 (bt a0 a1) false)) else (soundingsref01_Rune.j0 k a0 a1 (bt a0 a1) false))) else (none)) else (none)) = some r := h
 clear h
 by_cases c3 : 0 ≤ a1
 ·rw [if_pos c3] at H
  have c3b0 : decide (0 ≤ a1) = true := decide_eq_true c3
  clear c3
  by_cases c4 : a1 < (a0.size : Int)
  ·rw [if_pos c4] at H
   have c4b0 : decide (a1 < (a0.size : Int)) = true := decide_eq_true c4
   clear c4
   by_cases c6 : (bt a0 a1) < 128
   ·rw [if_pos c6] at H
    have c6b0 : decide ((bt a0 a1) < 128) = true := decide_eq_true c6
    clear c6
    obtain rfl := Option.some.inj H
    have p5 : 0 ≤ (a1 : Int) := of_decide_eq_true (by first | (with_reducible assumption) | assumption)
    have q5 : a1 < (a0.size : Int) := of_decide_eq_true (by first | (with_reducible assumption) | assumption)
    have hx5 := bt_at a0 a1
    replace p5 := eq_true p5
    replace q5 := eq_true q5
    go_enter Tryz.func118, Tryz.ntmps118
    go_wp2
    go_ret
    exact ⟨by first | rfl | (simp; done) | (simp [*]; done), by repeat (first | exact Drawn0.refl _ | apply Drawn0.step)⟩
   ·rw [if_neg c6] at H
    have c6b0 : decide ((bt a0 a1) < 128) = false := decide_eq_false c6
    clear c6
    have HC7 := Aside0.mk H
    clear H
    have p5 : 0 ≤ (a1 : Int) := of_decide_eq_true (by first | (with_reducible assumption) | assumption)
    have q5 : a1 < (a0.size : Int) := of_decide_eq_true (by first | (with_reducible assumption) | assumption)
    have hx5 := bt_at a0 a1
    replace p5 := eq_true p5
    replace q5 := eq_true q5
    go_enter Tryz.func118, Tryz.ntmps118
    go_upto_region 4 with (fail)
    go_cut [16] (fun v16 wc => ∃ (kq : Nat) (x16_6 : Bool), v16 = .bool x16_6 ∧ Aside0 (soundingsref01_Rune.j0 kq a0 a1 (bt a0 a1) x16_6 = some r) ∧ Aside0 (kq ≤ k) ∧ Drawn0 w wc)
    case first =>
     have H := HC7.out
     clear HC7
     by_cases c8 : (bt a0 a1) ≥ 194
     ·rw [if_pos c8] at H
      have c8b0 : decide (194 ≤ (bt a0 a1)) = true := decide_eq_true c8
      clear c8
      (first | rw [c8b0] | (simp only [i64_w, i32_w]; rw [c8b0]) | skip)
      by_cases c9 : (bt a0 a1) < 224
      ·rw [if_pos c9] at H
       have c9b0 : decide ((bt a0 a1) < 224) = true := decide_eq_true c9
       clear c9
       replace H := Option.bind_eq_some_iff.mp H
       obtain ⟨t340, A100, H⟩ := H
       replace H : (soundingsref01_Rune.j0 k a0 a1 (bt a0 a1) t340) = some r := H
       have A10 := Aside0.mk A100
       clear A100
       have H' := Aside0.mk H
       clear H
       go_wp2_with (first | (go_at_call 149; (with_reducible refine (soundingsref01_in.calls a0 (wrap64 (a1 + 1)) 128 191 t340 _ A10.out).mono ?_); rintro e w' ⟨rfl, ⟨nd, rfl⟩⟩))
       go_meet
       case rel => exact ⟨_, (t340), (by first | rfl | (simp; done) | (simp [*]; done)), H', ⟨by first | omega | exact Nat.le_refl _⟩, by repeat (first | exact Drawn0.refl _ | apply Drawn0.step)⟩
      ·rw [if_neg c9] at H
       have c9b0 : decide ((bt a0 a1) < 224) = false := decide_eq_false c9
       clear c9
       have H' := Aside0.mk H
       clear H
       go_wp2
       go_meet
       case rel => exact ⟨_, (false), (by first | rfl | (simp; done) | (simp [*]; done)), H', ⟨by first | omega | exact Nat.le_refl _⟩, by repeat (first | exact Drawn0.refl _ | apply Drawn0.step)⟩
     ·rw [if_neg c8] at H
      have c8b0 : decide (194 ≤ (bt a0 a1)) = false := decide_eq_false c8
      clear c8
      (first | rw [c8b0] | (simp only [i64_w, i32_w]; rw [c8b0]) | skip)
      have H' := Aside0.mk H
      clear H
      go_wp2
      go_meet
      case rel => exact ⟨_, (false), (by first | rfl | (simp; done) | (simp [*]; done)), H', ⟨by first | omega | exact Nat.le_refl _⟩, by repeat (first | exact Drawn0.refl _ | apply Drawn0.step)⟩
    case rest =>
     clear HC7
     try clear c1
     try clear p2
     try clear c3
     try clear c3b0
     try clear c4
     try clear c4b0
     try clear p5
     try clear q5
     try clear hx5
     try clear c6
     try clear c6b0
     try clear p6
     try clear c8
     try clear c8b0
     try clear c9
     try clear c9b0
     try clear p5
     try clear q5
     obtain ⟨kq, x16_6, rfl, HA, HJ6, ⟨mc6, rfl⟩⟩ := hcut
     cases kq with
     | zero => exact absurd HA.out (by simp [soundingsref01_Rune.j0])
     | succ kj6 =>
      have H := HA.out
      clear HA
      simp only [soundingsref01_Rune.j0] at H
      by_cases c11 : x16_6 = true
      ·subst c11
       have H1 : (some 2) = some r := by rw [if_pos rfl] at H; exact H
       clear H
       have H := H1
       clear H1
       obtain rfl := Option.some.inj H
       go_wp2
       go_ret
       exact ⟨by first | rfl | (simp; done) | (simp [*]; done), by repeat (first | exact Drawn0.refl _ | apply Drawn0.step)⟩
      ·replace c11 := Bool.eq_false_iff.mpr c11
       subst c11
       have H1 : (if (bt a0 a1) ≥ 224 then (soundingsref01_Rune.j1 kj6 a0 a1 (bt a0 a1) (decide ((bt a0 a1) < 240))) else (soundingsref01_Rune.j1 kj6 a0 a1 (bt a0 a1) false)) = some r := by rw [if_neg (show ¬ (false = true) by decide)] at H; exact H
       clear H
       have H := H1
       clear H1
       have HC12 := Aside0.mk H
       clear H
       go_upto_region 6 with (fail)
       go_cut [29] (fun v29 wc => ∃ (kq : Nat) (x29_11 : Bool), v29 = .bool x29_11 ∧ Aside0 (soundingsref01_Rune.j1 kq a0 a1 (bt a0 a1) x29_11 = some r) ∧ Aside0 (kq ≤ kj6) ∧ Drawn0 w wc)
       case first =>
        have H := HC12.out
        clear HC12
        by_cases c13 : (bt a0 a1) ≥ 224
        ·rw [if_pos c13] at H
         have c13b0 : decide (224 ≤ (bt a0 a1)) = true := decide_eq_true c13
         clear c13
         (first | rw [c13b0] | (simp only [i64_w, i32_w]; rw [c13b0]) | skip)
         have H' := Aside0.mk H
         clear H
         go_wp2
         go_meet
         case rel => exact ⟨_, (decide ((bt a0 a1) < 240)), (by first | rfl | (simp; done) | (simp [*]; done)), H', ⟨by have := HJ6.out; first | omega | exact Nat.le_refl _⟩, by repeat (first | exact Drawn0.refl _ | apply Drawn0.step)⟩
        ·rw [if_neg c13] at H
         have c13b0 : decide (224 ≤ (bt a0 a1)) = false := decide_eq_false c13
         clear c13
         (first | rw [c13b0] | (simp only [i64_w, i32_w]; rw [c13b0]) | skip)
         have H' := Aside0.mk H
         clear H
         go_wp2
         go_meet
         case rel => exact ⟨_, (false), (by first | rfl | (simp; done) | (simp [*]; done)), H', ⟨by have := HJ6.out; first | omega | exact Nat.le_refl _⟩, by repeat (first | exact Drawn0.refl _ | apply Drawn0.step)⟩
       case rest =>
        clear HC12
        try clear c1
        try clear p2
        try clear c3
        try clear c3b0
        try clear c4
        try clear c4b0
        try clear p5
        try clear q5
        try clear hx5
        try clear c6
        try clear c6b0
        try clear p6
        try clear c8
        try clear c8b0
        try clear c9
        try clear c9b0
        try clear c11
        try clear c13
        try clear c13b0
        try clear p2
        try clear p5
        try clear p6
        try clear q5
        obtain ⟨kq, x29_11, rfl, HA, HJ11, ⟨mc11, rfl⟩⟩ := hcut
        cases kq with
        | zero => exact absurd HA.out (by simp [soundingsref01_Rune.j1])
        | succ kj11 =>
         have H := HA.out
         clear HA
         simp only [soundingsref01_Rune.j1] at H
         by_cases c14 : x29_11 = true
         ·subst c14
          have H1 : (if (bt a0 a1) = 224 then (soundingsref01_Rune.j2 kj11 a0 a1 (bt a0 a1) 160 191) else (soundingsref01_Rune.j2 kj11 a0 a1 (bt a0 a1) 128 191)) = some r := by rw [if_pos rfl] at H; exact H
          clear H
          have H := H1
          clear H1
          have HC15 := Aside0.mk H
          clear H
          go_upto_if 37 with (fail)
          go_cut [6] (fun v6 wc => ∃ (kq : Nat) (x6_14 : Int), v6 = .int .u8 x6_14 ∧ Aside0 (soundingsref01_Rune.j2 kq a0 a1 (bt a0 a1) x6_14 191 = some r) ∧ Aside0 (kq ≤ kj11) ∧ Drawn0 w wc)
          case first =>
           have H := HC15.out
           clear HC15
           by_cases c16 : (bt a0 a1) = 224
           ·rw [if_pos c16] at H
            have c16b0 : ((bt a0 a1) == 224) = true := beq_iff_eq.mpr c16
            have c16b1 : ((bt a0 a1) != 224) = false := bne_eq_false_iff_eq.mpr c16
            clear c16
            (first | rw [c16b0] | (simp only [i64_w, i32_w]; rw [c16b0]) | skip)
            have H' := Aside0.mk H
            clear H
            go_wp2
            go_meet
            case rel => exact ⟨_, (160), (by first | rfl | (simp; done) | (simp [*]; done)), H', ⟨by have := HJ6.out; have := HJ11.out; first | omega | exact Nat.le_refl _⟩, by repeat (first | exact Drawn0.refl _ | apply Drawn0.step)⟩
           ·rw [if_neg c16] at H
            have c16b0 : ((bt a0 a1) == 224) = false := beq_eq_false_iff_ne.mpr c16
            have c16b1 : ((bt a0 a1) != 224) = true := bne_iff_ne.mpr c16
            (first | rw [c16b0] | (simp only [i64_w, i32_w]; rw [c16b0]) | skip)
            have H' := Aside0.mk H
            clear H
            go_wp2
            go_meet
            case rel => exact ⟨_, (128), (by first | rfl | (simp; done) | (simp [*]; done)), H', ⟨by have := HJ6.out; have := HJ11.out; first | omega | exact Nat.le_refl _⟩, by repeat (first | exact Drawn0.refl _ | apply Drawn0.step)⟩
          case rest =>
           clear HC15
           try clear c1
           try clear p2
           try clear c3
           try clear c3b0
           try clear c4
           try clear c4b0
           try clear p5
           try clear q5
           try clear hx5
           try clear c6
           try clear c6b0
           try clear p6
           try clear c8
           try clear c8b0
           try clear c9
           try clear c9b0
           try clear c11
           try clear c13
           try clear c13b0
           try clear c14
           try clear c16
           try clear c16b0
           try clear c16b1
           try clear p2
           try clear p5
           try clear p6
           try clear q5
           obtain ⟨kq, x6_14, rfl, HA, HJ14, ⟨mc14, rfl⟩⟩ := hcut
           cases kq with
           | zero => exact absurd HA.out (by simp [soundingsref01_Rune.j2])
           | succ kj14 =>
            have H := HA.out
            clear HA
            simp only [soundingsref01_Rune.j2] at H
            have HC17 := Aside0.mk H
            clear H
            go_upto_if 39 with (fail)
            go_cut [7] (fun v7 wc => ∃ (kq : Nat) (x7_16 : Int), v7 = .int .u8 x7_16 ∧ Aside0 (soundingsref01_Rune.j3 kq a0 a1 x6_14 x7_16 = some r) ∧ Aside0 (kq ≤ kj14) ∧ Drawn0 w wc)
            case first =>
             have H := HC17.out
             clear HC17
             by_cases c18 : (bt a0 a1) = 237
             ·rw [if_pos c18] at H
              have c18b0 : ((bt a0 a1) == 237) = true := beq_iff_eq.mpr c18
              have c18b1 : ((bt a0 a1) != 237) = false := bne_eq_false_iff_eq.mpr c18
              clear c18
              (first | rw [c18b0] | (simp only [i64_w, i32_w]; rw [c18b0]) | skip)
              have H' := Aside0.mk H
              clear H
              go_wp2
              go_meet
              case rel => exact ⟨_, (159), (by first | rfl | (simp; done) | (simp [*]; done)), H', ⟨by have := HJ6.out; have := HJ11.out; have := HJ14.out; first | omega | exact Nat.le_refl _⟩, by repeat (first | exact Drawn0.refl _ | apply Drawn0.step)⟩
             ·rw [if_neg c18] at H
              have c18b0 : ((bt a0 a1) == 237) = false := beq_eq_false_iff_ne.mpr c18
              have c18b1 : ((bt a0 a1) != 237) = true := bne_iff_ne.mpr c18
              (first | rw [c18b0] | (simp only [i64_w, i32_w]; rw [c18b0]) | skip)
              have H' := Aside0.mk H
              clear H
              go_wp2
              go_meet
              case rel => exact ⟨_, (191), (by first | rfl | (simp; done) | (simp [*]; done)), H', ⟨by have := HJ6.out; have := HJ11.out; have := HJ14.out; first | omega | exact Nat.le_refl _⟩, by repeat (first | exact Drawn0.refl _ | apply Drawn0.step)⟩
            case rest =>
             clear HC17
             try clear c1
             try clear p2
             try clear c3
             try clear c3b0
             try clear c4
             try clear c4b0
             try clear p5
             try clear q5
             try clear hx5
             try clear c6
             try clear c6b0
             try clear p6
             try clear c8
             try clear c8b0
             try clear c9
             try clear c9b0
             try clear c11
             try clear c13
             try clear c13b0
             try clear c14
             try clear c16
             try clear c16b0
             try clear c16b1
             try clear c18
             try clear c18b0
             try clear c18b1
             try clear p2
             try clear p5
             try clear p6
             try clear q5
             obtain ⟨kq, x7_16, rfl, HA, HJ16, ⟨mc16, rfl⟩⟩ := hcut
             cases kq with
             | zero => exact absurd HA.out (by simp [soundingsref01_Rune.j3])
             | succ kj16 =>
              have H := HA.out
              clear HA
              simp only [soundingsref01_Rune.j3] at H
              replace H := Option.bind_eq_some_iff.mp H
              obtain ⟨t341, A190, H⟩ := H
              replace H : (if t341 = true then ((soundingsref01_in.f a0 (wrap64 (a1 + 2)) 128 191).bind fun t342 => (if t342 = true then (some 3) else (some 0))) else (some 0)) = some r := H
              have A19 := Aside0.mk A190
              clear A190
              by_cases c20 : t341 = true
              ·subst c20
               have H1 : ((soundingsref01_in.f a0 (wrap64 (a1 + 2)) 128 191).bind fun t342 => (if t342 = true then (some 3) else (some 0))) = some r := by rw [if_pos rfl] at H; exact H
               clear H
               have H := H1
               clear H1
               replace H := Option.bind_eq_some_iff.mp H
               obtain ⟨t342, A210, H⟩ := H
               replace H : (if t342 = true then (some 3) else (some 0)) = some r := H
               have A21 := Aside0.mk A210
               clear A210
               by_cases c22 : t342 = true
               ·subst c22
                have H1 : (some 3) = some r := by rw [if_pos rfl] at H; exact H
                clear H
                have H := H1
                clear H1
                obtain rfl := Option.some.inj H
                go_wp2_with (first | ((with_reducible refine gate_callee (f := 149) rfl ?_); refine goesL_ (some 45) rfl rfl Tryz.func149 (by kernel_rfl) rfl #[.string a0, .int .i64 (wrap64 (a1 + 1)), .int .u8 x6_14, .int .u8 x7_16] rfl (by (try simp only [List.map_toArray, List.map_cons, List.map_nil]); first | done | rfl | (simp only [List.length_drop, List.length_take]; rfl)) ?_; (with_reducible refine (soundingsref01_in.calls a0 (wrap64 (a1 + 1)) x6_14 x7_16 true _ A19.out).mono ?_); rintro e w' ⟨rfl, ⟨nd, rfl⟩⟩; refine ⟨_, rfl, ?_⟩) | (go_at_call 149; (with_reducible refine (soundingsref01_in.calls a0 (wrap64 (a1 + 2)) 128 191 true _ A21.out).mono ?_); rintro e w' ⟨rfl, ⟨nd, rfl⟩⟩))
                go_ret
                exact ⟨by first | rfl | (simp; done) | (simp [*]; done), by repeat (first | exact Drawn0.refl _ | apply Drawn0.step)⟩
               ·replace c22 := Bool.eq_false_iff.mpr c22
                subst c22
                have H1 : (some 0) = some r := by rw [if_neg (show ¬ (false = true) by decide)] at H; exact H
                clear H
                have H := H1
                clear H1
                obtain rfl := Option.some.inj H
                go_wp2_with (first | ((with_reducible refine gate_callee (f := 149) rfl ?_); refine goesL_ (some 45) rfl rfl Tryz.func149 (by kernel_rfl) rfl #[.string a0, .int .i64 (wrap64 (a1 + 1)), .int .u8 x6_14, .int .u8 x7_16] rfl (by (try simp only [List.map_toArray, List.map_cons, List.map_nil]); first | done | rfl | (simp only [List.length_drop, List.length_take]; rfl)) ?_; (with_reducible refine (soundingsref01_in.calls a0 (wrap64 (a1 + 1)) x6_14 x7_16 true _ A19.out).mono ?_); rintro e w' ⟨rfl, ⟨nd, rfl⟩⟩; refine ⟨_, rfl, ?_⟩) | (go_at_call 149; (with_reducible refine (soundingsref01_in.calls a0 (wrap64 (a1 + 2)) 128 191 false _ A21.out).mono ?_); rintro e w' ⟨rfl, ⟨nd, rfl⟩⟩))
                go_ret
                exact ⟨by first | rfl | (simp; done) | (simp [*]; done), by repeat (first | exact Drawn0.refl _ | apply Drawn0.step)⟩
              ·replace c20 := Bool.eq_false_iff.mpr c20
               subst c20
               have H1 : (some 0) = some r := by rw [if_neg (show ¬ (false = true) by decide)] at H; exact H
               clear H
               have H := H1
               clear H1
               obtain rfl := Option.some.inj H
               go_wp2_with (first | ((with_reducible refine gate_callee (f := 149) rfl ?_); refine goesL_ (some 45) rfl rfl Tryz.func149 (by kernel_rfl) rfl #[.string a0, .int .i64 (wrap64 (a1 + 1)), .int .u8 x6_14, .int .u8 x7_16] rfl (by (try simp only [List.map_toArray, List.map_cons, List.map_nil]); first | done | rfl | (simp only [List.length_drop, List.length_take]; rfl)) ?_; (with_reducible refine (soundingsref01_in.calls a0 (wrap64 (a1 + 1)) x6_14 x7_16 false _ A19.out).mono ?_); rintro e w' ⟨rfl, ⟨nd, rfl⟩⟩; refine ⟨_, rfl, ?_⟩))
               go_ret
               exact ⟨by first | rfl | (simp; done) | (simp [*]; done), by repeat (first | exact Drawn0.refl _ | apply Drawn0.step)⟩
         ·replace c14 := Bool.eq_false_iff.mpr c14
          subst c14
          have H1 : (if (bt a0 a1) ≥ 240 then (soundingsref01_Rune.j4 kj11 a0 a1 (bt a0 a1) (decide ((bt a0 a1) < 245))) else (soundingsref01_Rune.j4 kj11 a0 a1 (bt a0 a1) false)) = some r := by rw [if_neg (show ¬ (false = true) by decide)] at H; exact H
          clear H
          have H := H1
          clear H1
          have HC23 := Aside0.mk H
          clear H
          go_upto_region 14 with (fail)
          go_cut [52] (fun v52 wc => ∃ (kq : Nat) (x52_22 : Bool), v52 = .bool x52_22 ∧ Aside0 (soundingsref01_Rune.j4 kq a0 a1 (bt a0 a1) x52_22 = some r) ∧ Aside0 (kq ≤ kj11) ∧ Drawn0 w wc)
          case first =>
           have H := HC23.out
           clear HC23
           by_cases c24 : (bt a0 a1) ≥ 240
           ·rw [if_pos c24] at H
            have c24b0 : decide (240 ≤ (bt a0 a1)) = true := decide_eq_true c24
            clear c24
            (first | rw [c24b0] | (simp only [i64_w, i32_w]; rw [c24b0]) | skip)
            have H' := Aside0.mk H
            clear H
            go_wp2
            go_meet
            case rel => exact ⟨_, (decide ((bt a0 a1) < 245)), (by first | rfl | (simp; done) | (simp [*]; done)), H', ⟨by have := HJ6.out; have := HJ11.out; first | omega | exact Nat.le_refl _⟩, by repeat (first | exact Drawn0.refl _ | apply Drawn0.step)⟩
           ·rw [if_neg c24] at H
            have c24b0 : decide (240 ≤ (bt a0 a1)) = false := decide_eq_false c24
            clear c24
            (first | rw [c24b0] | (simp only [i64_w, i32_w]; rw [c24b0]) | skip)
            have H' := Aside0.mk H
            clear H
            go_wp2
            go_meet
            case rel => exact ⟨_, (false), (by first | rfl | (simp; done) | (simp [*]; done)), H', ⟨by have := HJ6.out; have := HJ11.out; first | omega | exact Nat.le_refl _⟩, by repeat (first | exact Drawn0.refl _ | apply Drawn0.step)⟩
          case rest =>
           clear HC23
           try clear c1
           try clear c2
           try clear p2
           try clear c3
           try clear c3b0
           try clear c4
           try clear c4b0
           try clear p5
           try clear q5
           try clear hx5
           try clear c6
           try clear c6b0
           try clear p6
           try clear c8
           try clear c8b0
           try clear c9
           try clear c9b0
           try clear c11
           try clear c13
           try clear c13b0
           try clear c14
           try clear c16
           try clear c16b0
           try clear c16b1
           try clear c18
           try clear c18b0
           try clear c18b1
           try clear c20
           try clear c22
           try clear c24
           try clear c24b0
           try clear p2
           try clear p5
           try clear p6
           try clear q5
           obtain ⟨kq, x52_22, rfl, HA, HJ22, ⟨mc22, rfl⟩⟩ := hcut
           cases kq with
           | zero => exact absurd HA.out (by simp [soundingsref01_Rune.j4])
           | succ kj22 =>
            have H := HA.out
            clear HA
            simp only [soundingsref01_Rune.j4] at H
            by_cases c25 : x52_22 = true
            ·subst c25
             have H1 : (if (bt a0 a1) = 240 then (soundingsref01_Rune.j5 kj22 a0 a1 (bt a0 a1) 144 191) else (soundingsref01_Rune.j5 kj22 a0 a1 (bt a0 a1) 128 191)) = some r := by rw [if_pos rfl] at H; exact H
             clear H
             have H := H1
             clear H1
             have HC26 := Aside0.mk H
             clear H
             go_upto_if 60 with (fail)
             go_cut [8] (fun v8 wc => ∃ (kq : Nat) (x8_25 : Int), v8 = .int .u8 x8_25 ∧ Aside0 (soundingsref01_Rune.j5 kq a0 a1 (bt a0 a1) x8_25 191 = some r) ∧ Aside0 (kq ≤ kj22) ∧ Drawn0 w wc)
             case first =>
              have H := HC26.out
              clear HC26
              by_cases c27 : (bt a0 a1) = 240
              ·rw [if_pos c27] at H
               have c27b0 : ((bt a0 a1) == 240) = true := beq_iff_eq.mpr c27
               have c27b1 : ((bt a0 a1) != 240) = false := bne_eq_false_iff_eq.mpr c27
               clear c27
               (first | rw [c27b0] | (simp only [i64_w, i32_w]; rw [c27b0]) | skip)
               have H' := Aside0.mk H
               clear H
               go_wp2
               go_meet
               case rel => exact ⟨_, (144), (by first | rfl | (simp; done) | (simp [*]; done)), H', ⟨by have := HJ6.out; have := HJ11.out; have := HJ22.out; first | omega | exact Nat.le_refl _⟩, by repeat (first | exact Drawn0.refl _ | apply Drawn0.step)⟩
              ·rw [if_neg c27] at H
               have c27b0 : ((bt a0 a1) == 240) = false := beq_eq_false_iff_ne.mpr c27
               have c27b1 : ((bt a0 a1) != 240) = true := bne_iff_ne.mpr c27
               (first | rw [c27b0] | (simp only [i64_w, i32_w]; rw [c27b0]) | skip)
               have H' := Aside0.mk H
               clear H
               go_wp2
               go_meet
               case rel => exact ⟨_, (128), (by first | rfl | (simp; done) | (simp [*]; done)), H', ⟨by have := HJ6.out; have := HJ11.out; have := HJ22.out; first | omega | exact Nat.le_refl _⟩, by repeat (first | exact Drawn0.refl _ | apply Drawn0.step)⟩
             case rest =>
              clear HC26
              try clear c1
              try clear c2
              try clear p2
              try clear c3
              try clear c3b0
              try clear c4
              try clear c4b0
              try clear p5
              try clear q5
              try clear hx5
              try clear c6
              try clear c6b0
              try clear p6
              try clear c8
              try clear c8b0
              try clear c9
              try clear c9b0
              try clear c11
              try clear c13
              try clear c13b0
              try clear c14
              try clear c16
              try clear c16b0
              try clear c16b1
              try clear c18
              try clear c18b0
              try clear c18b1
              try clear c20
              try clear c22
              try clear c24
              try clear c24b0
              try clear c25
              try clear c27
              try clear c27b0
              try clear c27b1
              try clear p2
              try clear p5
              try clear p6
              try clear q5
              obtain ⟨kq, x8_25, rfl, HA, HJ25, ⟨mc25, rfl⟩⟩ := hcut
              cases kq with
              | zero => exact absurd HA.out (by simp [soundingsref01_Rune.j5])
              | succ kj25 =>
               have H := HA.out
               clear HA
               simp only [soundingsref01_Rune.j5] at H
               have HC28 := Aside0.mk H
               clear H
               go_upto_if 62 with (fail)
               go_cut [9] (fun v9 wc => ∃ (kq : Nat) (x9_27 : Int), v9 = .int .u8 x9_27 ∧ Aside0 (soundingsref01_Rune.j6 kq a0 a1 x8_25 x9_27 = some r) ∧ Aside0 (kq ≤ kj25) ∧ Drawn0 w wc)
               case first =>
                have H := HC28.out
                clear HC28
                by_cases c29 : (bt a0 a1) = 244
                ·rw [if_pos c29] at H
                 have c29b0 : ((bt a0 a1) == 244) = true := beq_iff_eq.mpr c29
                 have c29b1 : ((bt a0 a1) != 244) = false := bne_eq_false_iff_eq.mpr c29
                 clear c29
                 (first | rw [c29b0] | (simp only [i64_w, i32_w]; rw [c29b0]) | skip)
                 have H' := Aside0.mk H
                 clear H
                 go_wp2
                 go_meet
                 case rel => exact ⟨_, (143), (by first | rfl | (simp; done) | (simp [*]; done)), H', ⟨by have := HJ6.out; have := HJ11.out; have := HJ22.out; have := HJ25.out; first | omega | exact Nat.le_refl _⟩, by repeat (first | exact Drawn0.refl _ | apply Drawn0.step)⟩
                ·rw [if_neg c29] at H
                 have c29b0 : ((bt a0 a1) == 244) = false := beq_eq_false_iff_ne.mpr c29
                 have c29b1 : ((bt a0 a1) != 244) = true := bne_iff_ne.mpr c29
                 (first | rw [c29b0] | (simp only [i64_w, i32_w]; rw [c29b0]) | skip)
                 have H' := Aside0.mk H
                 clear H
                 go_wp2
                 go_meet
                 case rel => exact ⟨_, (191), (by first | rfl | (simp; done) | (simp [*]; done)), H', ⟨by have := HJ6.out; have := HJ11.out; have := HJ22.out; have := HJ25.out; first | omega | exact Nat.le_refl _⟩, by repeat (first | exact Drawn0.refl _ | apply Drawn0.step)⟩
               case rest =>
                clear HC28
                try clear c1
                try clear c2
                try clear p2
                try clear c3
                try clear c3b0
                try clear c4
                try clear c4b0
                try clear p5
                try clear q5
                try clear hx5
                try clear c6
                try clear c6b0
                try clear p6
                try clear c8
                try clear c8b0
                try clear c9
                try clear c9b0
                try clear c11
                try clear c13
                try clear c13b0
                try clear c14
                try clear c16
                try clear c16b0
                try clear c16b1
                try clear c18
                try clear c18b0
                try clear c18b1
                try clear c20
                try clear c22
                try clear c24
                try clear c24b0
                try clear c25
                try clear c27
                try clear c27b0
                try clear c27b1
                try clear c29
                try clear c29b0
                try clear c29b1
                try clear p2
                try clear p5
                try clear p6
                try clear q5
                obtain ⟨kq, x9_27, rfl, HA, HJ27, ⟨mc27, rfl⟩⟩ := hcut
                cases kq with
                | zero => exact absurd HA.out (by simp [soundingsref01_Rune.j6])
                | succ kj27 =>
                 have H := HA.out
                 clear HA
                 simp only [soundingsref01_Rune.j6] at H
                 replace H := Option.bind_eq_some_iff.mp H
                 obtain ⟨t343, A300, H⟩ := H
                 replace H : (if t343 = true then ((soundingsref01_in.f a0 (wrap64 (a1 + 2)) 128 191).bind fun t344 => (if t344 = true then ((soundingsref01_in.f a0 (wrap64 (a1 + 3)) 128 191).bind fun t345 => (if t345 = true then (some 4) else (some 0))) else (some 0))) else (some 0)) = some r := H
                 have A30 := Aside0.mk A300
                 clear A300
                 by_cases c31 : t343 = true
                 ·subst c31
                  have H1 : ((soundingsref01_in.f a0 (wrap64 (a1 + 2)) 128 191).bind fun t344 => (if t344 = true then ((soundingsref01_in.f a0 (wrap64 (a1 + 3)) 128 191).bind fun t345 => (if t345 = true then (some 4) else (some 0))) else (some 0))) = some r := by rw [if_pos rfl] at H; exact H
                  clear H
                  have H := H1
                  clear H1
                  replace H := Option.bind_eq_some_iff.mp H
                  obtain ⟨t344, A320, H⟩ := H
                  replace H : (if t344 = true then ((soundingsref01_in.f a0 (wrap64 (a1 + 3)) 128 191).bind fun t345 => (if t345 = true then (some 4) else (some 0))) else (some 0)) = some r := H
                  have A32 := Aside0.mk A320
                  clear A320
                  by_cases c33 : t344 = true
                  ·subst c33
                   have H1 : ((soundingsref01_in.f a0 (wrap64 (a1 + 3)) 128 191).bind fun t345 => (if t345 = true then (some 4) else (some 0))) = some r := by rw [if_pos rfl] at H; exact H
                   clear H
                   have H := H1
                   clear H1
                   replace H := Option.bind_eq_some_iff.mp H
                   obtain ⟨t345, A340, H⟩ := H
                   replace H : (if t345 = true then (some 4) else (some 0)) = some r := H
                   have A34 := Aside0.mk A340
                   clear A340
                   by_cases c35 : t345 = true
                   ·subst c35
                    have H1 : (some 4) = some r := by rw [if_pos rfl] at H; exact H
                    clear H
                    have H := H1
                    clear H1
                    obtain rfl := Option.some.inj H
                    go_wp2_with (first | ((with_reducible refine gate_callee (f := 149) rfl ?_); refine goesL_ (some 68) rfl rfl Tryz.func149 (by kernel_rfl) rfl #[.string a0, .int .i64 (wrap64 (a1 + 1)), .int .u8 x8_25, .int .u8 x9_27] rfl (by (try simp only [List.map_toArray, List.map_cons, List.map_nil]); first | done | rfl | (simp only [List.length_drop, List.length_take]; rfl)) ?_; (with_reducible refine (soundingsref01_in.calls a0 (wrap64 (a1 + 1)) x8_25 x9_27 true _ A30.out).mono ?_); rintro e w' ⟨rfl, ⟨nd, rfl⟩⟩; refine ⟨_, rfl, ?_⟩) | (go_at_call 149; (with_reducible refine (soundingsref01_in.calls a0 (wrap64 (a1 + 2)) 128 191 true _ A32.out).mono ?_); rintro e w' ⟨rfl, ⟨nd, rfl⟩⟩) | (go_at_call 149; (with_reducible refine (soundingsref01_in.calls a0 (wrap64 (a1 + 3)) 128 191 true _ A34.out).mono ?_); rintro e w' ⟨rfl, ⟨nd, rfl⟩⟩))
                    go_ret
                    exact ⟨by first | rfl | (simp; done) | (simp [*]; done), by repeat (first | exact Drawn0.refl _ | apply Drawn0.step)⟩
                   ·replace c35 := Bool.eq_false_iff.mpr c35
                    subst c35
                    have H1 : (some 0) = some r := by rw [if_neg (show ¬ (false = true) by decide)] at H; exact H
                    clear H
                    have H := H1
                    clear H1
                    obtain rfl := Option.some.inj H
                    go_wp2_with (first | ((with_reducible refine gate_callee (f := 149) rfl ?_); refine goesL_ (some 68) rfl rfl Tryz.func149 (by kernel_rfl) rfl #[.string a0, .int .i64 (wrap64 (a1 + 1)), .int .u8 x8_25, .int .u8 x9_27] rfl (by (try simp only [List.map_toArray, List.map_cons, List.map_nil]); first | done | rfl | (simp only [List.length_drop, List.length_take]; rfl)) ?_; (with_reducible refine (soundingsref01_in.calls a0 (wrap64 (a1 + 1)) x8_25 x9_27 true _ A30.out).mono ?_); rintro e w' ⟨rfl, ⟨nd, rfl⟩⟩; refine ⟨_, rfl, ?_⟩) | (go_at_call 149; (with_reducible refine (soundingsref01_in.calls a0 (wrap64 (a1 + 2)) 128 191 true _ A32.out).mono ?_); rintro e w' ⟨rfl, ⟨nd, rfl⟩⟩) | (go_at_call 149; (with_reducible refine (soundingsref01_in.calls a0 (wrap64 (a1 + 3)) 128 191 false _ A34.out).mono ?_); rintro e w' ⟨rfl, ⟨nd, rfl⟩⟩))
                    go_ret
                    exact ⟨by first | rfl | (simp; done) | (simp [*]; done), by repeat (first | exact Drawn0.refl _ | apply Drawn0.step)⟩
                  ·replace c33 := Bool.eq_false_iff.mpr c33
                   subst c33
                   have H1 : (some 0) = some r := by rw [if_neg (show ¬ (false = true) by decide)] at H; exact H
                   clear H
                   have H := H1
                   clear H1
                   obtain rfl := Option.some.inj H
                   go_wp2_with (first | ((with_reducible refine gate_callee (f := 149) rfl ?_); refine goesL_ (some 68) rfl rfl Tryz.func149 (by kernel_rfl) rfl #[.string a0, .int .i64 (wrap64 (a1 + 1)), .int .u8 x8_25, .int .u8 x9_27] rfl (by (try simp only [List.map_toArray, List.map_cons, List.map_nil]); first | done | rfl | (simp only [List.length_drop, List.length_take]; rfl)) ?_; (with_reducible refine (soundingsref01_in.calls a0 (wrap64 (a1 + 1)) x8_25 x9_27 true _ A30.out).mono ?_); rintro e w' ⟨rfl, ⟨nd, rfl⟩⟩; refine ⟨_, rfl, ?_⟩) | (go_at_call 149; (with_reducible refine (soundingsref01_in.calls a0 (wrap64 (a1 + 2)) 128 191 false _ A32.out).mono ?_); rintro e w' ⟨rfl, ⟨nd, rfl⟩⟩))
                   go_ret
                   exact ⟨by first | rfl | (simp; done) | (simp [*]; done), by repeat (first | exact Drawn0.refl _ | apply Drawn0.step)⟩
                 ·replace c31 := Bool.eq_false_iff.mpr c31
                  subst c31
                  have H1 : (some 0) = some r := by rw [if_neg (show ¬ (false = true) by decide)] at H; exact H
                  clear H
                  have H := H1
                  clear H1
                  obtain rfl := Option.some.inj H
                  go_wp2_with (first | ((with_reducible refine gate_callee (f := 149) rfl ?_); refine goesL_ (some 68) rfl rfl Tryz.func149 (by kernel_rfl) rfl #[.string a0, .int .i64 (wrap64 (a1 + 1)), .int .u8 x8_25, .int .u8 x9_27] rfl (by (try simp only [List.map_toArray, List.map_cons, List.map_nil]); first | done | rfl | (simp only [List.length_drop, List.length_take]; rfl)) ?_; (with_reducible refine (soundingsref01_in.calls a0 (wrap64 (a1 + 1)) x8_25 x9_27 false _ A30.out).mono ?_); rintro e w' ⟨rfl, ⟨nd, rfl⟩⟩; refine ⟨_, rfl, ?_⟩))
                  go_ret
                  exact ⟨by first | rfl | (simp; done) | (simp [*]; done), by repeat (first | exact Drawn0.refl _ | apply Drawn0.step)⟩
            ·replace c25 := Bool.eq_false_iff.mpr c25
             subst c25
             have H1 : (some 0) = some r := by rw [if_neg (show ¬ (false = true) by decide)] at H; exact H
             clear H
             have H := H1
             clear H1
             obtain rfl := Option.some.inj H
             go_wp2
             go_ret
             exact ⟨by first | rfl | (simp; done) | (simp [*]; done), by repeat (first | exact Drawn0.refl _ | apply Drawn0.step)⟩
  ·rw [if_neg c4] at H
   exact absurd H (by simp)
 ·rw [if_neg c3] at H
  exact absurd H (by simp)

end Go.Proofs.YtjleceekccehoaaGreatDoor.Pr
end

section
-- Written by a program of this session (wip/hook.py) out of the translation. Not trusted: Lean checks it.
namespace Go.Proofs.YtjleceekccehoaaGreatDoor.Pr
open Go.RowKit Go.Proofs.YtjleceekccehoaaGreatDoorW.PrintWords Go.Proofs.YtjleceekccehoaaGreatDoorW.PrintLast Go.Proofs.YtjleceekccehoaaGreatDoorW.PrintMore
attribute [local go_sem] max2_int min2_int max_two min_two max_three min_three max_four min_four   -- for this text's walks alone
set_option linter.unusedVariables false
set_option linter.unusedSimpArgs false

/-! ### soundingsref01_IsText: function 81 -/
def soundingsref01_IsText.l0 : Nat → ByteArray → Int → Option (Bool)
 | 0, _, _ => none
 | k + 1, x0, x3 => if x3 < (x0.size : Int) then ((soundingsref01_Rune.f k x0 x3).bind fun t346 => (if t346 = 0 then (some false) else (soundingsref01_IsText.l0 k x0 (wrap64 (x3 + t346))))) else (some true)
def soundingsref01_IsText.f (k : Nat) (a0 : ByteArray) : Option (Bool) := soundingsref01_IsText.l0 k a0 0
theorem soundingsref01_IsText.mono_l : ∀ k, (∀ y0 y1, LeO (soundingsref01_IsText.l0 k y0 y1) (soundingsref01_IsText.l0 (k + 1) y0 y1))
 | 0 => fun _ _ r h => by simp [soundingsref01_IsText.l0] at h
 | k + 1 => by
  have ih0 := soundingsref01_IsText.mono_l k
  ·intro y0 y1
   unfold soundingsref01_IsText.l0
   repeat' first
   | (with_reducible exact ih0 _ _)
   | (with_reducible exact soundingsref01_Rune.mono _ _ _)
   | (with_reducible exact LeO.refl _)
   | (with_reducible exact LeO.none _)
   | (with_reducible refine LeO.ite ?_ ?_)
   | (with_reducible refine LeO.bind ?_ (fun _ => ?_))
   | exact ih0 _ _
   | exact soundingsref01_Rune.mono _ _ _
   | exact LeO.none _
   | refine LeO.ite ?_ ?_
   | refine LeO.bind ?_ (fun _ => ?_)
theorem soundingsref01_IsText.mono : ∀ a0 k, LeO (soundingsref01_IsText.f k a0) (soundingsref01_IsText.f (k + 1) a0) := by
 intro a0 k
 have ih0 := soundingsref01_IsText.mono_l k
 unfold soundingsref01_IsText.f
 repeat' first
   | (with_reducible exact ih0 _ _)
   | (with_reducible exact soundingsref01_Rune.mono _ _ _)
   | (with_reducible exact LeO.refl _)
   | (with_reducible exact LeO.none _)
   | (with_reducible refine LeO.ite ?_ ?_)
   | (with_reducible refine LeO.bind ?_ (fun _ => ?_))
   | exact ih0 _ _
   | exact soundingsref01_Rune.mono _ _ _
   | exact LeO.none _
   | refine LeO.ite ?_ ?_
   | refine LeO.bind ?_ (fun _ => ?_)
set_option maxHeartbeats 8000000 in
set_option maxRecDepth 100000 in
theorem soundingsref01_IsText.calls (k : Nat) (a0 : ByteArray) (r : Bool) (w : World) (h : soundingsref01_IsText.f k a0 = some r) :
  Calls Tryz.prog 81 #[.string a0] w fun e w' => e = .returned (.bool r) ∧ Drawn0 w w' := by
 have H : (soundingsref01_IsText.l0 k a0 0) = some r := h
 clear h
 have H' := Aside0.mk H
 clear H
 go_enter Tryz.func81, Tryz.ntmps81
 go_wp2
 go_loopg [3] k (fun kq v3 w' => ∃ (x3_1 : Int), v3 = .int .i64 x3_1 ∧ Aside0 (soundingsref01_IsText.l0 kq a0 x3_1 = some r) ∧ Aside0 (kq ≤ k) ∧ Drawn0 w w')
 case atStart => exact ⟨(0), (by first | rfl | (simp; done) | (simp [*]; done)), H', ⟨Nat.le_refl _⟩, by repeat (first | exact Drawn0.refl _ | apply Drawn0.step)⟩
 case round =>
  clear H'
  obtain ⟨x3_1, rfl, HA, HK1, ⟨m1, rfl⟩⟩ := hrel
  cases gk with
  | zero => exact absurd HA.out (by simp [soundingsref01_IsText.l0])
  | succ k1 =>
   have H := HA.out
   clear HA
   simp only [soundingsref01_IsText.l0] at H
   by_cases c2 : x3_1 < (a0.size : Int)
   ·rw [if_pos c2] at H
    have c2b0 : decide (x3_1 < (a0.size : Int)) = true := decide_eq_true c2
    clear c2
    replace H := Option.bind_eq_some_iff.mp H
    obtain ⟨t346, A30, H⟩ := H
    replace H : (if t346 = 0 then (some false) else (soundingsref01_IsText.l0 k1 a0 (wrap64 (x3_1 + t346)))) = some r := H
    have A3 := Aside0.mk A30
    clear A30
    by_cases c4 : t346 = 0
    ·rw [if_pos c4] at H
     have c4b0 : (t346 == 0) = true := beq_iff_eq.mpr c4
     have c4b1 : (t346 != 0) = false := bne_eq_false_iff_eq.mpr c4
     clear c4
     obtain rfl := Option.some.inj H
     go_wp2_with (first | ((with_reducible refine gate_callee (f := 118) rfl ?_); refine goesL_ (some 11) rfl rfl Tryz.func118 (by kernel_rfl) rfl #[.string a0, .int .i64 x3_1] rfl (by (try simp only [List.map_toArray, List.map_cons, List.map_nil]); first | done | rfl | (simp only [List.length_drop, List.length_take]; rfl)) ?_; (with_reducible refine (soundingsref01_Rune.calls k1 a0 x3_1 t346 _ A3.out).mono ?_); rintro e w' ⟨rfl, ⟨nd, rfl⟩⟩; refine ⟨_, rfl, ?_⟩))
     go_ret
     exact ⟨by first | rfl | (simp; done) | (simp [*]; done), by repeat (first | exact Drawn0.refl _ | apply Drawn0.step)⟩
    ·rw [if_neg c4] at H
     have c4b0 : (t346 == 0) = false := beq_eq_false_iff_ne.mpr c4
     have c4b1 : (t346 != 0) = true := bne_iff_ne.mpr c4
     have H' := Aside0.mk H
     clear H
     go_wp2_with (first | ((with_reducible refine gate_callee (f := 118) rfl ?_); refine goesL_ (some 11) rfl rfl Tryz.func118 (by kernel_rfl) rfl #[.string a0, .int .i64 x3_1] rfl (by (try simp only [List.map_toArray, List.map_cons, List.map_nil]); first | done | rfl | (simp only [List.length_drop, List.length_take]; rfl)) ?_; (with_reducible refine (soundingsref01_Rune.calls k1 a0 x3_1 t346 _ A3.out).mono ?_); rintro e w' ⟨rfl, ⟨nd, rfl⟩⟩; refine ⟨_, rfl, ?_⟩))
     go_roundg k1
     case measure => have := HK1.out; omega
     case rel => exact ⟨(wrap64 (x3_1 + t346)), (by first | rfl | (simp; done) | (simp [*]; done)), H', ⟨by have := HK1.out; omega⟩, by repeat (first | exact Drawn0.refl _ | apply Drawn0.step)⟩
   ·rw [if_neg c2] at H
    have c2b0 : decide (x3_1 < (a0.size : Int)) = false := decide_eq_false c2
    clear c2
    obtain rfl := Option.some.inj H
    go_wp2
    go_ret
    exact ⟨by first | rfl | (simp; done) | (simp [*]; done), by repeat (first | exact Drawn0.refl _ | apply Drawn0.step)⟩

end Go.Proofs.YtjleceekccehoaaGreatDoor.Pr
end
