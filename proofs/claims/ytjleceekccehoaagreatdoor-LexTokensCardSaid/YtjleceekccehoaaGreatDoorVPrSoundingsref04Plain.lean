/- Texts of this session, cut down to what one claim needs and joined: PrSoundingsref04Plain. -/
import Derived.Test.YtjleceekccehoaaGreatDoorVGJ0
import Derived.Test.YtjleceekccehoaaGreatDoorVGJ14
-- Written by a program of this session (wip/hook.py) out of the translation. Not trusted: Lean checks it.
namespace Go.Proofs.YtjleceekccehoaaGreatDoor.Pr
open Go.RowKit Go.Proofs.YtjleceekccehoaaGreatDoorW.PrintWords Go.Proofs.YtjleceekccehoaaGreatDoorW.PrintLast Go.Proofs.YtjleceekccehoaaGreatDoorW.PrintMore
attribute [local go_sem] max2_int min2_int max_two min_two max_three min_three max_four min_four   -- for this text's walks alone
set_option linter.unusedVariables false
set_option linter.unusedSimpArgs false

/-! ### soundingsref04_Plain: function 41 -/
mutual
def soundingsref04_Plain.j0 : Nat → ByteArray → Int → Bool → Option (Bool)
 | 0, _, _, _ => none
 | k + 1, x0, x3, x14 => if x14 = true then (soundingsref04_Plain.j1 k x0 1) else (soundingsref04_Plain.j1 k x0 x3)
def soundingsref04_Plain.j1 : Nat → ByteArray → Int → Option (Bool)
 | 0, _, _ => none
 | k + 1, x0, x3 => (soundingsref04_digits.f k x0 x3).bind fun t307 => (if (wrap64 (x3 + t307)) < (x0.size : Int) then (if 0 ≤ (wrap64 (x3 + t307)) then (soundingsref04_Plain.j2 k x0 (wrap64 (x3 + t307)) t307 ((bt x0 (wrap64 (x3 + t307))) == 46)) else (none)) else (soundingsref04_Plain.j2 k x0 (wrap64 (x3 + t307)) t307 false))
def soundingsref04_Plain.j2 : Nat → ByteArray → Int → Int → Bool → Option (Bool)
 | 0, _, _, _, _ => none
 | k + 1, x0, x3, x4, x30 => if x30 = true then ((soundingsref04_digits.f k x0 (wrap64 (x3 + 1))).bind fun t308 => (soundingsref04_Plain.j3 k x0 (wrap64 ((wrap64 (x3 + 1)) + t308)) (wrap64 (x4 + t308)))) else (soundingsref04_Plain.j3 k x0 x3 x4)
def soundingsref04_Plain.j3 : Nat → ByteArray → Int → Int → Option (Bool)
 | 0, _, _, _ => none
 | k + 1, x0, x3, x4 => if x4 > 0 then (if x3 < (x0.size : Int) then (if 0 ≤ x3 then (if (bt x0 x3) = 101 then (soundingsref04_Plain.j4 k x0 x3 x4 true) else (soundingsref04_Plain.j4 k x0 x3 x4 ((bt x0 x3) == 69))) else (none)) else (soundingsref04_Plain.j4 k x0 x3 x4 false)) else (soundingsref04_Plain.j4 k x0 x3 x4 false)
def soundingsref04_Plain.j4 : Nat → ByteArray → Int → Int → Bool → Option (Bool)
 | 0, _, _, _, _ => none
 | k + 1, x0, x3, x4, x61 => if x61 = true then (if (wrap64 (x3 + 1)) < (x0.size : Int) then (if 0 ≤ (wrap64 (x3 + 1)) then (if (bt x0 (wrap64 (x3 + 1))) = 43 then (soundingsref04_Plain.j5 k x0 (wrap64 (x3 + 1)) x4 true) else (soundingsref04_Plain.j5 k x0 (wrap64 (x3 + 1)) x4 ((bt x0 (wrap64 (x3 + 1))) == 45))) else (none)) else (soundingsref04_Plain.j5 k x0 (wrap64 (x3 + 1)) x4 false)) else (if x4 > 0 then (some (x3 == (x0.size : Int))) else (some false))
def soundingsref04_Plain.j5 : Nat → ByteArray → Int → Int → Bool → Option (Bool)
 | 0, _, _, _, _ => none
 | k + 1, x0, x3, x4, x79 => if x79 = true then ((soundingsref04_digits.f k x0 (wrap64 (x3 + 1))).bind fun t309 => (if t309 = 0 then (some false) else (if x4 > 0 then (some ((wrap64 ((wrap64 (x3 + 1)) + t309)) == (x0.size : Int))) else (some false)))) else ((soundingsref04_digits.f k x0 x3).bind fun t310 => (if t310 = 0 then (some false) else (if x4 > 0 then (some ((wrap64 (x3 + t310)) == (x0.size : Int))) else (some false))))
end
def soundingsref04_Plain.f (k : Nat) (a0 : ByteArray) : Option (Bool) := if (a0.size : Int) > 0 then (if 0 < (a0.size : Int) then (soundingsref04_Plain.j0 k a0 0 ((bt a0 0) == 45)) else (none)) else (soundingsref04_Plain.j0 k a0 0 false)
theorem soundingsref04_Plain.mono_l : ∀ k, (∀ y0 y1 y2, LeO (soundingsref04_Plain.j0 k y0 y1 y2) (soundingsref04_Plain.j0 (k + 1) y0 y1 y2)) ∧ (∀ y0 y1, LeO (soundingsref04_Plain.j1 k y0 y1) (soundingsref04_Plain.j1 (k + 1) y0 y1)) ∧ (∀ y0 y1 y2 y3, LeO (soundingsref04_Plain.j2 k y0 y1 y2 y3) (soundingsref04_Plain.j2 (k + 1) y0 y1 y2 y3)) ∧ (∀ y0 y1 y2, LeO (soundingsref04_Plain.j3 k y0 y1 y2) (soundingsref04_Plain.j3 (k + 1) y0 y1 y2)) ∧ (∀ y0 y1 y2 y3, LeO (soundingsref04_Plain.j4 k y0 y1 y2 y3) (soundingsref04_Plain.j4 (k + 1) y0 y1 y2 y3)) ∧ (∀ y0 y1 y2 y3, LeO (soundingsref04_Plain.j5 k y0 y1 y2 y3) (soundingsref04_Plain.j5 (k + 1) y0 y1 y2 y3))
 | 0 => ⟨fun _ _ _ r h => by simp [soundingsref04_Plain.j0] at h, fun _ _ r h => by simp [soundingsref04_Plain.j1] at h, fun _ _ _ _ r h => by simp [soundingsref04_Plain.j2] at h, fun _ _ _ r h => by simp [soundingsref04_Plain.j3] at h, fun _ _ _ _ r h => by simp [soundingsref04_Plain.j4] at h, fun _ _ _ _ r h => by simp [soundingsref04_Plain.j5] at h⟩
 | k + 1 => by
  obtain ⟨ih0, ih1, ih2, ih3, ih4, ih5⟩ := soundingsref04_Plain.mono_l k
  refine ⟨?_, ?_, ?_, ?_, ?_, ?_⟩
  ·intro y0 y1 y2
   unfold soundingsref04_Plain.j0
   repeat' first
   | (with_reducible exact ih0 _ _ _)
   | (with_reducible exact ih1 _ _)
   | (with_reducible exact ih2 _ _ _ _)
   | (with_reducible exact ih3 _ _ _)
   | (with_reducible exact ih4 _ _ _ _)
   | (with_reducible exact ih5 _ _ _ _)
   | (with_reducible exact soundingsref04_digits.mono _ _ _)
   | (with_reducible exact LeO.refl _)
   | (with_reducible exact LeO.none _)
   | (with_reducible refine LeO.ite ?_ ?_)
   | (with_reducible refine LeO.bind ?_ (fun _ => ?_))
   | exact ih0 _ _ _
   | exact ih1 _ _
   | exact ih2 _ _ _ _
   | exact ih3 _ _ _
   | exact ih4 _ _ _ _
   | exact ih5 _ _ _ _
   | exact soundingsref04_digits.mono _ _ _
   | exact LeO.none _
   | refine LeO.ite ?_ ?_
   | refine LeO.bind ?_ (fun _ => ?_)
  ·intro y0 y1
   unfold soundingsref04_Plain.j1
   repeat' first
   | (with_reducible exact ih0 _ _ _)
   | (with_reducible exact ih1 _ _)
   | (with_reducible exact ih2 _ _ _ _)
   | (with_reducible exact ih3 _ _ _)
   | (with_reducible exact ih4 _ _ _ _)
   | (with_reducible exact ih5 _ _ _ _)
   | (with_reducible exact soundingsref04_digits.mono _ _ _)
   | (with_reducible exact LeO.refl _)
   | (with_reducible exact LeO.none _)
   | (with_reducible refine LeO.ite ?_ ?_)
   | (with_reducible refine LeO.bind ?_ (fun _ => ?_))
   | exact ih0 _ _ _
   | exact ih1 _ _
   | exact ih2 _ _ _ _
   | exact ih3 _ _ _
   | exact ih4 _ _ _ _
   | exact ih5 _ _ _ _
   | exact soundingsref04_digits.mono _ _ _
   | exact LeO.none _
   | refine LeO.ite ?_ ?_
   | refine LeO.bind ?_ (fun _ => ?_)
  ·intro y0 y1 y2 y3
   unfold soundingsref04_Plain.j2
   repeat' first
   | (with_reducible exact ih0 _ _ _)
   | (with_reducible exact ih1 _ _)
   | (with_reducible exact ih2 _ _ _ _)
   | (with_reducible exact ih3 _ _ _)
   | (with_reducible exact ih4 _ _ _ _)
   | (with_reducible exact ih5 _ _ _ _)
   | (with_reducible exact soundingsref04_digits.mono _ _ _)
   | (with_reducible exact LeO.refl _)
   | (with_reducible exact LeO.none _)
   | (with_reducible refine LeO.ite ?_ ?_)
   | (with_reducible refine LeO.bind ?_ (fun _ => ?_))
   | exact ih0 _ _ _
   | exact ih1 _ _
   | exact ih2 _ _ _ _
   | exact ih3 _ _ _
   | exact ih4 _ _ _ _
   | exact ih5 _ _ _ _
   | exact soundingsref04_digits.mono _ _ _
   | exact LeO.none _
   | refine LeO.ite ?_ ?_
   | refine LeO.bind ?_ (fun _ => ?_)
  ·intro y0 y1 y2
   unfold soundingsref04_Plain.j3
   repeat' first
   | (with_reducible exact ih0 _ _ _)
   | (with_reducible exact ih1 _ _)
   | (with_reducible exact ih2 _ _ _ _)
   | (with_reducible exact ih3 _ _ _)
   | (with_reducible exact ih4 _ _ _ _)
   | (with_reducible exact ih5 _ _ _ _)
   | (with_reducible exact soundingsref04_digits.mono _ _ _)
   | (with_reducible exact LeO.refl _)
   | (with_reducible exact LeO.none _)
   | (with_reducible refine LeO.ite ?_ ?_)
   | (with_reducible refine LeO.bind ?_ (fun _ => ?_))
   | exact ih0 _ _ _
   | exact ih1 _ _
   | exact ih2 _ _ _ _
   | exact ih3 _ _ _
   | exact ih4 _ _ _ _
   | exact ih5 _ _ _ _
   | exact soundingsref04_digits.mono _ _ _
   | exact LeO.none _
   | refine LeO.ite ?_ ?_
   | refine LeO.bind ?_ (fun _ => ?_)
  ·intro y0 y1 y2 y3
   unfold soundingsref04_Plain.j4
   repeat' first
   | (with_reducible exact ih0 _ _ _)
   | (with_reducible exact ih1 _ _)
   | (with_reducible exact ih2 _ _ _ _)
   | (with_reducible exact ih3 _ _ _)
   | (with_reducible exact ih4 _ _ _ _)
   | (with_reducible exact ih5 _ _ _ _)
   | (with_reducible exact soundingsref04_digits.mono _ _ _)
   | (with_reducible exact LeO.refl _)
   | (with_reducible exact LeO.none _)
   | (with_reducible refine LeO.ite ?_ ?_)
   | (with_reducible refine LeO.bind ?_ (fun _ => ?_))
   | exact ih0 _ _ _
   | exact ih1 _ _
   | exact ih2 _ _ _ _
   | exact ih3 _ _ _
   | exact ih4 _ _ _ _
   | exact ih5 _ _ _ _
   | exact soundingsref04_digits.mono _ _ _
   | exact LeO.none _
   | refine LeO.ite ?_ ?_
   | refine LeO.bind ?_ (fun _ => ?_)
  ·intro y0 y1 y2 y3
   unfold soundingsref04_Plain.j5
   repeat' first
   | (with_reducible exact ih0 _ _ _)
   | (with_reducible exact ih1 _ _)
   | (with_reducible exact ih2 _ _ _ _)
   | (with_reducible exact ih3 _ _ _)
   | (with_reducible exact ih4 _ _ _ _)
   | (with_reducible exact ih5 _ _ _ _)
   | (with_reducible exact soundingsref04_digits.mono _ _ _)
   | (with_reducible exact LeO.refl _)
   | (with_reducible exact LeO.none _)
   | (with_reducible refine LeO.ite ?_ ?_)
   | (with_reducible refine LeO.bind ?_ (fun _ => ?_))
   | exact ih0 _ _ _
   | exact ih1 _ _
   | exact ih2 _ _ _ _
   | exact ih3 _ _ _
   | exact ih4 _ _ _ _
   | exact ih5 _ _ _ _
   | exact soundingsref04_digits.mono _ _ _
   | exact LeO.none _
   | refine LeO.ite ?_ ?_
   | refine LeO.bind ?_ (fun _ => ?_)
theorem soundingsref04_Plain.mono : ∀ a0 k, LeO (soundingsref04_Plain.f k a0) (soundingsref04_Plain.f (k + 1) a0) := by
 intro a0 k
 obtain ⟨ih0, ih1, ih2, ih3, ih4, ih5⟩ := soundingsref04_Plain.mono_l k
 unfold soundingsref04_Plain.f
 repeat' first
   | (with_reducible exact ih0 _ _ _)
   | (with_reducible exact ih1 _ _)
   | (with_reducible exact ih2 _ _ _ _)
   | (with_reducible exact ih3 _ _ _)
   | (with_reducible exact ih4 _ _ _ _)
   | (with_reducible exact ih5 _ _ _ _)
   | (with_reducible exact soundingsref04_digits.mono _ _ _)
   | (with_reducible exact LeO.refl _)
   | (with_reducible exact LeO.none _)
   | (with_reducible refine LeO.ite ?_ ?_)
   | (with_reducible refine LeO.bind ?_ (fun _ => ?_))
   | exact ih0 _ _ _
   | exact ih1 _ _
   | exact ih2 _ _ _ _
   | exact ih3 _ _ _
   | exact ih4 _ _ _ _
   | exact ih5 _ _ _ _
   | exact soundingsref04_digits.mono _ _ _
   | exact LeO.none _
   | refine LeO.ite ?_ ?_
   | refine LeO.bind ?_ (fun _ => ?_)
set_option maxHeartbeats 8000000 in
set_option maxRecDepth 100000 in
theorem soundingsref04_Plain.calls (k : Nat) (a0 : ByteArray) (r : Bool) (w : World) (h : soundingsref04_Plain.f k a0 = some r) :
  Calls Tryz.prog 41 #[.string a0] w fun e w' => e = .returned (.bool r) ∧ Drawn0 w w' := by
 have H : (if (a0.size : Int) > 0 then (if 0 < (a0.size : Int) then (soundingsref04_Plain.j0 k a0 0 ((bt a0 0) == 45)) else (none)) else (soundingsref04_Plain.j0 k a0 0 false)) = some r := h
 clear h
 have HC2 := Aside0.mk H
 clear H
 go_enter Tryz.func41, Tryz.ntmps41
 go_upto_region 2 with (fail)
 go_cut [14] (fun v14 wc => ∃ (kq : Nat) (x14_1 : Bool), v14 = .bool x14_1 ∧ Aside0 (soundingsref04_Plain.j0 kq a0 0 x14_1 = some r) ∧ Aside0 (kq ≤ k) ∧ Drawn0 w wc)
 case first =>
  have H := HC2.out
  clear HC2
  by_cases c3 : (a0.size : Int) > 0
  ·rw [if_pos c3] at H
   have c3b0 : decide (0 < (a0.size : Int)) = true := decide_eq_true c3
   have c3b1 : decide (0 < a0.size) = true := decide_eq_true (by omega)
   clear c3
   (first | rw [c3b0] | (simp only [i64_w, i32_w]; rw [c3b0]) | skip)
   by_cases c4 : 0 < (a0.size : Int)
   ·rw [if_pos c4] at H
    have c4b0 : decide (0 < (a0.size : Int)) = true := decide_eq_true c4
    have c4b1 : decide (0 < a0.size) = true := decide_eq_true (by omega)
    clear c4
    have H' := Aside0.mk H
    clear H
    have p5 : 0 ≤ (0 : Int) := (by omega)
    have q5 : 0 < a0.size := (by have : (0 : Int) < (a0.size : Int) := of_decide_eq_true (by first | (with_reducible assumption) | assumption); omega)
    have hx5 : ∀ h : 0 < a0.size, ((a0[0]'h).toNat : Int) = bt a0 0 := bt_at a0 0
    clear p5
    have qi5 : (0 < (a0.size : Int)) = True := eq_true (of_decide_eq_true (by first | (with_reducible assumption) | assumption))
    replace q5 := eq_true q5
    go_wp2
    go_meet
    case rel => exact ⟨_, (((bt a0 0) == 45)), (by first | rfl | (simp; done) | (simp [*]; done)), H', ⟨by first | omega | exact Nat.le_refl _⟩, by repeat (first | exact Drawn0.refl _ | apply Drawn0.step)⟩
   ·rw [if_neg c4] at H
    exact absurd H (by simp)
  ·rw [if_neg c3] at H
   have c3b0 : decide (0 < (a0.size : Int)) = false := decide_eq_false c3
   have c3b1 : decide (0 < a0.size) = false := decide_eq_false (by omega)
   clear c3
   (first | rw [c3b0] | (simp only [i64_w, i32_w]; rw [c3b0]) | skip)
   have H' := Aside0.mk H
   clear H
   go_wp2
   go_meet
   case rel => exact ⟨_, (false), (by first | rfl | (simp; done) | (simp [*]; done)), H', ⟨by first | omega | exact Nat.le_refl _⟩, by repeat (first | exact Drawn0.refl _ | apply Drawn0.step)⟩
 case rest =>
  clear HC2
  try clear p2
  try clear c3
  try clear c3b0
  try clear c3b1
  try clear c4
  try clear c4b0
  try clear c4b1
  try clear p5
  try clear q5
  try clear hx5
  try clear qi5
  try clear p5
  try clear q5
  obtain ⟨kq, x14_1, rfl, HA, HJ1, ⟨mc1, rfl⟩⟩ := hcut
  cases kq with
  | zero => exact absurd HA.out (by simp [soundingsref04_Plain.j0])
  | succ kj1 =>
   have H := HA.out
   clear HA
   simp only [soundingsref04_Plain.j0] at H
   have HC6 := Aside0.mk H
   clear H
   go_upto_if 14 with (fail)
   go_cut [3] (fun v3 wc => ∃ (kq : Nat) (x3_5 : Int), v3 = .int .i64 x3_5 ∧ Aside0 (soundingsref04_Plain.j1 kq a0 x3_5 = some r) ∧ Aside0 (kq ≤ kj1) ∧ Drawn0 w wc)
   case first =>
    have H := HC6.out
    clear HC6
    by_cases c7 : x14_1 = true
    ·subst c7
     have H1 : (soundingsref04_Plain.j1 kj1 a0 1) = some r := by rw [if_pos rfl] at H; exact H
     clear H
     have H := H1
     clear H1
     have H' := Aside0.mk H
     clear H
     go_wp2
     go_meet
     case rel => exact ⟨_, (1), (by first | rfl | (simp; done) | (simp [*]; done)), H', ⟨by have := HJ1.out; first | omega | exact Nat.le_refl _⟩, by repeat (first | exact Drawn0.refl _ | apply Drawn0.step)⟩
    ·replace c7 := Bool.eq_false_iff.mpr c7
     subst c7
     have H1 : (soundingsref04_Plain.j1 kj1 a0 0) = some r := by rw [if_neg (show ¬ (false = true) by decide)] at H; exact H
     clear H
     have H := H1
     clear H1
     have H' := Aside0.mk H
     clear H
     go_wp2
     go_meet
     case rel => exact ⟨_, (0), (by first | rfl | (simp; done) | (simp [*]; done)), H', ⟨by have := HJ1.out; first | omega | exact Nat.le_refl _⟩, by repeat (first | exact Drawn0.refl _ | apply Drawn0.step)⟩
   case rest =>
    clear HC6
    try clear c1
    try clear p2
    try clear c3
    try clear c3b0
    try clear c3b1
    try clear c4
    try clear c4b0
    try clear c4b1
    try clear p5
    try clear q5
    try clear hx5
    try clear qi5
    try clear c7
    try clear p2
    try clear p5
    try clear q5
    obtain ⟨kq, x3_5, rfl, HA, HJ5, ⟨mc5, rfl⟩⟩ := hcut
    cases kq with
    | zero => exact absurd HA.out (by simp [soundingsref04_Plain.j1])
    | succ kj5 =>
     have H := HA.out
     clear HA
     simp only [soundingsref04_Plain.j1] at H
     replace H := Option.bind_eq_some_iff.mp H
     obtain ⟨t307, A80, H⟩ := H
     replace H : (if (wrap64 (x3_5 + t307)) < (a0.size : Int) then (if 0 ≤ (wrap64 (x3_5 + t307)) then (soundingsref04_Plain.j2 kj5 a0 (wrap64 (x3_5 + t307)) t307 ((bt a0 (wrap64 (x3_5 + t307))) == 46)) else (none)) else (soundingsref04_Plain.j2 kj5 a0 (wrap64 (x3_5 + t307)) t307 false)) = some r := H
     have A8 := Aside0.mk A80
     clear A80
     have HC9 := Aside0.mk H
     clear H
     go_upto_region 6 with (first | ((with_reducible refine gate_callee (f := 66) rfl ?_); refine goesL_ (some 17) rfl rfl Tryz.func66 (by kernel_rfl) rfl #[.string a0, .int .i64 x3_5] rfl (by (try simp only [List.map_toArray, List.map_cons, List.map_nil]); first | done | rfl | (simp only [List.length_drop, List.length_take]; rfl)) ?_; (with_reducible refine (soundingsref04_digits.calls kj5 a0 x3_5 t307 _ A8.out).mono ?_); rintro e w' ⟨rfl, ⟨nd, rfl⟩⟩; refine ⟨_, rfl, ?_⟩))
     (try simp only [Act.put, List.setIfInBounds_toArray, List.set_cons_zero, List.set_cons_succ])
     go_cut [30] (fun v30 wc => ∃ (kq : Nat) (x30_8 : Bool), v30 = .bool x30_8 ∧ Aside0 (soundingsref04_Plain.j2 kq a0 (wrap64 (x3_5 + t307)) t307 x30_8 = some r) ∧ Aside0 (kq ≤ kj5) ∧ Drawn0 w wc)
     case first =>
      have H := HC9.out
      clear HC9
      by_cases c10 : (wrap64 (x3_5 + t307)) < (a0.size : Int)
      ·rw [if_pos c10] at H
       have c10b0 : decide ((wrap64 (x3_5 + t307)) < (a0.size : Int)) = true := decide_eq_true c10
       clear c10
       (first | rw [c10b0] | (simp only [i64_w, i32_w]; rw [c10b0]) | skip)
       obtain ⟨ji11, hji11⟩ : ∃ j_ : Int, (wrap64 (x3_5 + t307)) = j_ := ⟨_, rfl⟩
       replace H : (if 0 ≤ (ji11) then (soundingsref04_Plain.j2 kj5 a0 ji11 t307 ((bt a0 (ji11)) == 46)) else (none)) = some r := by first | (rw [hji11] at H; exact H) | (simp only [hji11] at H ⊢; exact H)
       (try rw [hji11] at c10b0)
       have hji11w : (IntKind.i64.wrap (x3_5 + t307)) = ji11 := (i64_w _).trans hji11
       by_cases c12 : 0 ≤ (ji11)
       ·rw [if_pos c12] at H
        have c12b0 : decide (0 ≤ (ji11)) = true := decide_eq_true c12
        clear c12
        have H' := Aside0.mk H
        clear H
        have p13 : 0 ≤ ((ji11) : Int) := of_decide_eq_true (by first | (with_reducible assumption) | assumption)
        have q13 : (ji11) < (a0.size : Int) := of_decide_eq_true (by first | (with_reducible assumption) | assumption)
        have hx13 := bt_at a0 (ji11)
        replace p13 := eq_true p13
        replace q13 := eq_true q13
        go_wp2
        go_meet
        case rel => exact ⟨_, (((bt a0 (ji11)) == 46)), (by first | rfl | (simp; done) | (simp only [← hji11] <;> (first | rfl | simp)) | (simp [*]; done)), (by first | exact H' | (rw [hji11]; exact H')), ⟨by have := HJ1.out; have := HJ5.out; first | omega | exact Nat.le_refl _⟩, by repeat (first | exact Drawn0.refl _ | apply Drawn0.step)⟩
       ·rw [if_neg c12] at H
        exact absurd H (by simp)
      ·rw [if_neg c10] at H
       have c10b0 : decide ((wrap64 (x3_5 + t307)) < (a0.size : Int)) = false := decide_eq_false c10
       clear c10
       (first | rw [c10b0] | (simp only [i64_w, i32_w]; rw [c10b0]) | skip)
       have H' := Aside0.mk H
       clear H
       go_wp2
       go_meet
       case rel => exact ⟨_, (false), (by first | rfl | (simp; done) | (simp [*]; done)), H', ⟨by have := HJ1.out; have := HJ5.out; first | omega | exact Nat.le_refl _⟩, by repeat (first | exact Drawn0.refl _ | apply Drawn0.step)⟩
     case rest =>
      clear HC9
      try clear c1
      try clear p1
      try clear q1
      try clear hx1
      try clear p2
      try clear c3
      try clear c3b0
      try clear c3b1
      try clear c4
      try clear c4b0
      try clear c4b1
      try clear c5
      try clear p5
      try clear q5
      try clear hx5
      try clear qi5
      try clear c6
      try clear p6
      try clear c7
      try clear c10
      try clear c10b0
      try clear c12
      try clear c12b0
      try clear p13
      try clear q13
      try clear hx13
      try clear p13
      try clear p2
      try clear p5
      try clear q13
      try clear q5
      obtain ⟨kq, x30_8, rfl, HA, HJ8, ⟨mc8, rfl⟩⟩ := hcut
      cases kq with
      | zero => exact absurd HA.out (by simp [soundingsref04_Plain.j2])
      | succ kj8 =>
       have H := HA.out
       clear HA
       simp only [soundingsref04_Plain.j2] at H
       have HC14 := Aside0.mk H
       clear H
       go_upto_if 30 with (fail)
       go_cut [3, 4] (fun v3 v4 wc => ∃ (kq : Nat) (x3_13 : Int) (x4_13 : Int), v3 = .int .i64 x3_13 ∧ v4 = .int .i64 x4_13 ∧ Aside0 (soundingsref04_Plain.j3 kq a0 x3_13 x4_13 = some r) ∧ Aside0 (kq ≤ kj8) ∧ Drawn0 w wc)
       case first =>
        have H := HC14.out
        clear HC14
        by_cases c15 : x30_8 = true
        ·subst c15
         have H1 : ((soundingsref04_digits.f kj8 a0 (wrap64 ((wrap64 (x3_5 + t307)) + 1))).bind fun t308 => (soundingsref04_Plain.j3 kj8 a0 (wrap64 ((wrap64 ((wrap64 (x3_5 + t307)) + 1)) + t308)) (wrap64 (t307 + t308)))) = some r := by rw [if_pos rfl] at H; exact H
         clear H
         have H := H1
         clear H1
         replace H := Option.bind_eq_some_iff.mp H
         obtain ⟨t308, A160, H⟩ := H
         replace H : (soundingsref04_Plain.j3 kj8 a0 (wrap64 ((wrap64 ((wrap64 (x3_5 + t307)) + 1)) + t308)) (wrap64 (t307 + t308))) = some r := H
         have A16 := Aside0.mk A160
         clear A160
         have H' := Aside0.mk H
         clear H
         go_wp2_with (first | ((with_reducible refine gate_callee (f := 66) rfl ?_); refine goesL_ (some 34) rfl rfl Tryz.func66 (by kernel_rfl) rfl #[.string a0, .int .i64 (wrap64 ((wrap64 (x3_5 + t307)) + 1))] rfl (by (try simp only [List.map_toArray, List.map_cons, List.map_nil]); first | done | rfl | (simp only [List.length_drop, List.length_take]; rfl)) ?_; (with_reducible refine (soundingsref04_digits.calls kj8 a0 (wrap64 ((wrap64 (x3_5 + t307)) + 1)) t308 _ A16.out).mono ?_); rintro e w' ⟨rfl, ⟨nd, rfl⟩⟩; refine ⟨_, rfl, ?_⟩))
         go_meet
         case rel => exact ⟨_, (wrap64 ((wrap64 ((wrap64 (x3_5 + t307)) + 1)) + t308)), (wrap64 (t307 + t308)), (by first | rfl | (simp; done) | (simp [*]; done)), (by first | rfl | (simp; done) | (simp [*]; done)), H', ⟨by have := HJ1.out; have := HJ5.out; have := HJ8.out; first | omega | exact Nat.le_refl _⟩, by repeat (first | exact Drawn0.refl _ | apply Drawn0.step)⟩
        ·replace c15 := Bool.eq_false_iff.mpr c15
         subst c15
         have H1 : (soundingsref04_Plain.j3 kj8 a0 (wrap64 (x3_5 + t307)) t307) = some r := by rw [if_neg (show ¬ (false = true) by decide)] at H; exact H
         clear H
         have H := H1
         clear H1
         have H' := Aside0.mk H
         clear H
         go_wp2
         go_meet
         case rel => exact ⟨_, ((wrap64 (x3_5 + t307))), (t307), (by first | rfl | (simp; done) | (simp [*]; done)), (by first | rfl | (simp; done) | (simp [*]; done)), H', ⟨by have := HJ1.out; have := HJ5.out; have := HJ8.out; first | omega | exact Nat.le_refl _⟩, by repeat (first | exact Drawn0.refl _ | apply Drawn0.step)⟩
       case rest =>
        clear HC14
        try clear c1
        try clear p1
        try clear q1
        try clear hx1
        try clear p2
        try clear c3
        try clear c3b0
        try clear c3b1
        try clear c4
        try clear c4b0
        try clear c4b1
        try clear c5
        try clear p5
        try clear q5
        try clear hx5
        try clear qi5
        try clear c6
        try clear p6
        try clear c7
        try clear c8
        try clear c10
        try clear c10b0
        try clear c12
        try clear c12b0
        try clear p13
        try clear q13
        try clear hx13
        try clear c15
        try clear p1
        try clear p13
        try clear p2
        try clear p5
        try clear p6
        try clear q1
        try clear q13
        try clear q5
        obtain ⟨kq, x3_13, x4_13, rfl, rfl, HA, HJ13, ⟨mc13, rfl⟩⟩ := hcut
        cases kq with
        | zero => exact absurd HA.out (by simp [soundingsref04_Plain.j3])
        | succ kj13 =>
         have H := HA.out
         clear HA
         simp only [soundingsref04_Plain.j3] at H
         have HC17 := Aside0.mk H
         clear H
         go_upto_region 10 with (fail)
         go_cut [61] (fun v61 wc => ∃ (kq : Nat) (x61_16 : Bool), v61 = .bool x61_16 ∧ Aside0 (soundingsref04_Plain.j4 kq a0 x3_13 x4_13 x61_16 = some r) ∧ Aside0 (kq ≤ kj13) ∧ Drawn0 w wc)
         case first =>
          have H := HC17.out
          clear HC17
          by_cases c18 : x4_13 > 0
          ·rw [if_pos c18] at H
           have c18b0 : decide (0 < x4_13) = true := decide_eq_true c18
           clear c18
           (first | rw [c18b0] | (simp only [i64_w, i32_w]; rw [c18b0]) | skip)
           by_cases c19 : x3_13 < (a0.size : Int)
           ·rw [if_pos c19] at H
            have c19b0 : decide (x3_13 < (a0.size : Int)) = true := decide_eq_true c19
            clear c19
            by_cases c20 : 0 ≤ x3_13
            ·rw [if_pos c20] at H
             have c20b0 : decide (0 ≤ x3_13) = true := decide_eq_true c20
             clear c20
             by_cases c22 : (bt a0 x3_13) = 101
             ·rw [if_pos c22] at H
              have c22b0 : ((bt a0 x3_13) == 101) = true := beq_iff_eq.mpr c22
              have c22b1 : ((bt a0 x3_13) != 101) = false := bne_eq_false_iff_eq.mpr c22
              clear c22
              have H' := Aside0.mk H
              clear H
              have p21 : 0 ≤ (x3_13 : Int) := of_decide_eq_true (by first | (with_reducible assumption) | assumption)
              have q21 : x3_13 < (a0.size : Int) := of_decide_eq_true (by first | (with_reducible assumption) | assumption)
              have hx21 := bt_at a0 x3_13
              replace p21 := eq_true p21
              replace q21 := eq_true q21
              go_wp2
              go_meet
              case rel => exact ⟨_, (true), (by first | rfl | (simp; done) | (simp [*]; done)), (by first | exact H' | (rw [hji27]; exact H')), ⟨by have := HJ1.out; have := HJ5.out; have := HJ8.out; have := HJ13.out; first | omega | exact Nat.le_refl _⟩, by repeat (first | exact Drawn0.refl _ | apply Drawn0.step)⟩
             ·rw [if_neg c22] at H
              have c22b0 : ((bt a0 x3_13) == 101) = false := beq_eq_false_iff_ne.mpr c22
              have c22b1 : ((bt a0 x3_13) != 101) = true := bne_iff_ne.mpr c22
              have H' := Aside0.mk H
              clear H
              have p21 : 0 ≤ (x3_13 : Int) := of_decide_eq_true (by first | (with_reducible assumption) | assumption)
              have q21 : x3_13 < (a0.size : Int) := of_decide_eq_true (by first | (with_reducible assumption) | assumption)
              have hx21 := bt_at a0 x3_13
              replace p21 := eq_true p21
              replace q21 := eq_true q21
              have p23 : 0 ≤ (x3_13 : Int) := of_decide_eq_true (by first | (with_reducible assumption) | assumption)
              have q23 : x3_13 < (a0.size : Int) := of_decide_eq_true (by first | (with_reducible assumption) | assumption)
              have hx23 := bt_at a0 x3_13
              replace p23 := eq_true p23
              replace q23 := eq_true q23
              go_wp2
              go_meet
              case rel => exact ⟨_, (((bt a0 x3_13) == 69)), (by first | rfl | (simp; done) | (simp [*]; done)), H', ⟨by have := HJ1.out; have := HJ5.out; have := HJ8.out; have := HJ13.out; first | omega | exact Nat.le_refl _⟩, by repeat (first | exact Drawn0.refl _ | apply Drawn0.step)⟩
            ·rw [if_neg c20] at H
             exact absurd H (by simp)
           ·rw [if_neg c19] at H
            have c19b0 : decide (x3_13 < (a0.size : Int)) = false := decide_eq_false c19
            clear c19
            have H' := Aside0.mk H
            clear H
            go_wp2
            go_meet
            case rel => exact ⟨_, (false), (by first | rfl | (simp; done) | (simp [*]; done)), H', ⟨by have := HJ1.out; have := HJ5.out; have := HJ8.out; have := HJ13.out; first | omega | exact Nat.le_refl _⟩, by repeat (first | exact Drawn0.refl _ | apply Drawn0.step)⟩
          ·rw [if_neg c18] at H
           have c18b0 : decide (0 < x4_13) = false := decide_eq_false c18
           clear c18
           (first | rw [c18b0] | (simp only [i64_w, i32_w]; rw [c18b0]) | skip)
           have H' := Aside0.mk H
           clear H
           go_wp2
           go_meet
           case rel => exact ⟨_, (false), (by first | rfl | (simp; done) | (simp [*]; done)), H', ⟨by have := HJ1.out; have := HJ5.out; have := HJ8.out; have := HJ13.out; first | omega | exact Nat.le_refl _⟩, by repeat (first | exact Drawn0.refl _ | apply Drawn0.step)⟩
         case rest =>
          clear HC17
          try clear c1
          try clear p1
          try clear q1
          try clear hx1
          try clear c2
          try clear p2
          try clear q2
          try clear hx2
          try clear c3
          try clear c3b0
          try clear c3b1
          try clear c4
          try clear c4b0
          try clear c4b1
          try clear c5
          try clear p5
          try clear q5
          try clear hx5
          try clear qi5
          try clear c6
          try clear p6
          try clear c7
          try clear c8
          try clear c10
          try clear c10b0
          try clear c12
          try clear c12b0
          try clear c13
          try clear p13
          try clear q13
          try clear hx13
          try clear c15
          try clear c18
          try clear c18b0
          try clear c19
          try clear c19b0
          try clear c20
          try clear c20b0
          try clear p21
          try clear q21
          try clear hx21
          try clear c22
          try clear c22b0
          try clear c22b1
          try clear p23
          try clear q23
          try clear hx23
          try clear p1
          try clear p13
          try clear p2
          try clear p21
          try clear p23
          try clear p5
          try clear p6
          try clear q1
          try clear q13
          try clear q21
          try clear q23
          try clear q5
          obtain ⟨kq, x61_16, rfl, HA, HJ16, ⟨mc16, rfl⟩⟩ := hcut
          cases kq with
          | zero => exact absurd HA.out (by simp [soundingsref04_Plain.j4])
          | succ kj16 =>
           have H := HA.out
           clear HA
           simp only [soundingsref04_Plain.j4] at H
           by_cases c24 : x61_16 = true
           ·subst c24
            have H1 : (if (wrap64 (x3_13 + 1)) < (a0.size : Int) then (if 0 ≤ (wrap64 (x3_13 + 1)) then (if (bt a0 (wrap64 (x3_13 + 1))) = 43 then (soundingsref04_Plain.j5 kj16 a0 (wrap64 (x3_13 + 1)) x4_13 true) else (soundingsref04_Plain.j5 kj16 a0 (wrap64 (x3_13 + 1)) x4_13 ((bt a0 (wrap64 (x3_13 + 1))) == 45))) else (none)) else (soundingsref04_Plain.j5 kj16 a0 (wrap64 (x3_13 + 1)) x4_13 false)) = some r := by rw [if_pos rfl] at H; exact H
            clear H
            have H := H1
            clear H1
            have HC25 := Aside0.mk H
            clear H
            go_upto_region 12 with (fail)
            go_cut [79] (fun v79 wc => ∃ (kq : Nat) (x79_24 : Bool), v79 = .bool x79_24 ∧ Aside0 (soundingsref04_Plain.j5 kq a0 (wrap64 (x3_13 + 1)) x4_13 x79_24 = some r) ∧ Aside0 (kq ≤ kj16) ∧ Drawn0 w wc)
            case first =>
             have H := HC25.out
             clear HC25
             by_cases c26 : (wrap64 (x3_13 + 1)) < (a0.size : Int)
             ·rw [if_pos c26] at H
              have c26b0 : decide ((wrap64 (x3_13 + 1)) < (a0.size : Int)) = true := decide_eq_true c26
              clear c26
              (first | rw [c26b0] | (simp only [i64_w, i32_w]; rw [c26b0]) | skip)
              obtain ⟨ji27, hji27⟩ : ∃ j_ : Int, (wrap64 (x3_13 + 1)) = j_ := ⟨_, rfl⟩
              replace H : (if 0 ≤ (ji27) then (if (bt a0 (ji27)) = 43 then (soundingsref04_Plain.j5 kj16 a0 ji27 x4_13 true) else (soundingsref04_Plain.j5 kj16 a0 ji27 x4_13 ((bt a0 (ji27)) == 45))) else (none)) = some r := by first | (rw [hji27] at H; exact H) | (simp only [hji27] at H ⊢; exact H)
              (try rw [hji27] at c26b0)
              have hji27w : (IntKind.i64.wrap (x3_13 + 1)) = ji27 := (i64_w _).trans hji27
              by_cases c28 : 0 ≤ (ji27)
              ·rw [if_pos c28] at H
               have c28b0 : decide (0 ≤ (ji27)) = true := decide_eq_true c28
               clear c28
               by_cases c30 : (bt a0 (ji27)) = 43
               ·rw [if_pos c30] at H
                have c30b0 : ((bt a0 (ji27)) == 43) = true := beq_iff_eq.mpr c30
                have c30b1 : ((bt a0 (ji27)) != 43) = false := bne_eq_false_iff_eq.mpr c30
                clear c30
                have H' := Aside0.mk H
                clear H
                have p29 : 0 ≤ ((ji27) : Int) := of_decide_eq_true (by first | (with_reducible assumption) | assumption)
                have q29 : (ji27) < (a0.size : Int) := of_decide_eq_true (by first | (with_reducible assumption) | assumption)
                have hx29 := bt_at a0 (ji27)
                replace p29 := eq_true p29
                replace q29 := eq_true q29
                go_wp2
                go_meet
                case rel => exact ⟨_, (true), (by first | rfl | (simp; done) | (simp [*]; done)), (by first | exact H' | (rw [hji27]; exact H')), ⟨by have := HJ1.out; have := HJ5.out; have := HJ8.out; have := HJ13.out; have := HJ16.out; first | omega | exact Nat.le_refl _⟩, by repeat (first | exact Drawn0.refl _ | apply Drawn0.step)⟩
               ·rw [if_neg c30] at H
                have c30b0 : ((bt a0 (ji27)) == 43) = false := beq_eq_false_iff_ne.mpr c30
                have c30b1 : ((bt a0 (ji27)) != 43) = true := bne_iff_ne.mpr c30
                have H' := Aside0.mk H
                clear H
                have p29 : 0 ≤ ((ji27) : Int) := of_decide_eq_true (by first | (with_reducible assumption) | assumption)
                have q29 : (ji27) < (a0.size : Int) := of_decide_eq_true (by first | (with_reducible assumption) | assumption)
                have hx29 := bt_at a0 (ji27)
                replace p29 := eq_true p29
                replace q29 := eq_true q29
                have p31 : 0 ≤ ((ji27) : Int) := of_decide_eq_true (by first | (with_reducible assumption) | assumption)
                have q31 : (ji27) < (a0.size : Int) := of_decide_eq_true (by first | (with_reducible assumption) | assumption)
                have hx31 := bt_at a0 (ji27)
                replace p31 := eq_true p31
                replace q31 := eq_true q31
                go_wp2
                go_meet
                case rel => exact ⟨_, (((bt a0 (ji27)) == 45)), (by first | rfl | (simp; done) | (simp only [← hji27] <;> (first | rfl | simp)) | (simp [*]; done)), (by first | exact H' | (rw [hji27]; exact H')), ⟨by have := HJ1.out; have := HJ5.out; have := HJ8.out; have := HJ13.out; have := HJ16.out; first | omega | exact Nat.le_refl _⟩, by repeat (first | exact Drawn0.refl _ | apply Drawn0.step)⟩
              ·rw [if_neg c28] at H
               exact absurd H (by simp)
             ·rw [if_neg c26] at H
              have c26b0 : decide ((wrap64 (x3_13 + 1)) < (a0.size : Int)) = false := decide_eq_false c26
              clear c26
              (first | rw [c26b0] | (simp only [i64_w, i32_w]; rw [c26b0]) | skip)
              have H' := Aside0.mk H
              clear H
              go_wp2
              go_meet
              case rel => exact ⟨_, (false), (by first | rfl | (simp; done) | (simp [*]; done)), H', ⟨by have := HJ1.out; have := HJ5.out; have := HJ8.out; have := HJ13.out; have := HJ16.out; first | omega | exact Nat.le_refl _⟩, by repeat (first | exact Drawn0.refl _ | apply Drawn0.step)⟩
            case rest =>
             clear HC25
             try clear c1
             try clear p1
             try clear q1
             try clear hx1
             try clear c2
             try clear p2
             try clear q2
             try clear hx2
             try clear c3
             try clear c3b0
             try clear c3b1
             try clear p3
             try clear q3
             try clear hx3
             try clear c4
             try clear c4b0
             try clear c4b1
             try clear c5
             try clear p5
             try clear q5
             try clear hx5
             try clear qi5
             try clear c6
             try clear p6
             try clear c7
             try clear c8
             try clear c10
             try clear c10b0
             try clear c12
             try clear c12b0
             try clear c13
             try clear p13
             try clear q13
             try clear hx13
             try clear c15
             try clear c16
             try clear c18
             try clear c18b0
             try clear c19
             try clear c19b0
             try clear c20
             try clear c20b0
             try clear p21
             try clear q21
             try clear hx21
             try clear c22
             try clear c22b0
             try clear c22b1
             try clear p23
             try clear q23
             try clear hx23
             try clear c24
             try clear c26
             try clear c26b0
             try clear c28
             try clear c28b0
             try clear p29
             try clear q29
             try clear hx29
             try clear c30
             try clear c30b0
             try clear c30b1
             try clear p31
             try clear q31
             try clear hx31
             try clear p1
             try clear p13
             try clear p2
             try clear p21
             try clear p23
             try clear p29
             try clear p31
             try clear p5
             try clear p6
             try clear q1
             try clear q13
             try clear q2
             try clear q21
             try clear q23
             try clear q29
             try clear q31
             try clear q5
             obtain ⟨kq, x79_24, rfl, HA, HJ24, ⟨mc24, rfl⟩⟩ := hcut
             cases kq with
             | zero => exact absurd HA.out (by simp [soundingsref04_Plain.j5])
             | succ kj24 =>
              have H := HA.out
              clear HA
              simp only [soundingsref04_Plain.j5] at H
              by_cases c32 : x79_24 = true
              ·subst c32
               have H1 : ((soundingsref04_digits.f kj24 a0 (wrap64 ((wrap64 (x3_13 + 1)) + 1))).bind fun t309 => (if t309 = 0 then (some false) else (if x4_13 > 0 then (some ((wrap64 ((wrap64 ((wrap64 (x3_13 + 1)) + 1)) + t309)) == (a0.size : Int))) else (some false)))) = some r := by rw [if_pos rfl] at H; exact H
               clear H
               have H := H1
               clear H1
               replace H := Option.bind_eq_some_iff.mp H
               obtain ⟨t309, A330, H⟩ := H
               replace H : (if t309 = 0 then (some false) else (if x4_13 > 0 then (some ((wrap64 ((wrap64 ((wrap64 (x3_13 + 1)) + 1)) + t309)) == (a0.size : Int))) else (some false))) = some r := H
               have A33 := Aside0.mk A330
               clear A330
               by_cases c34 : t309 = 0
               ·rw [if_pos c34] at H
                have c34b0 : (t309 == 0) = true := beq_iff_eq.mpr c34
                have c34b1 : (t309 != 0) = false := bne_eq_false_iff_eq.mpr c34
                clear c34
                obtain rfl := Option.some.inj H
                go_wp2_with (first | ((with_reducible refine gate_callee (f := 66) rfl ?_); refine goesL_ (some 84) rfl rfl Tryz.func66 (by kernel_rfl) rfl #[.string a0, .int .i64 (wrap64 ((wrap64 (x3_13 + 1)) + 1))] rfl (by (try simp only [List.map_toArray, List.map_cons, List.map_nil]); first | done | rfl | (simp only [List.length_drop, List.length_take]; rfl)) ?_; (with_reducible refine (soundingsref04_digits.calls kj24 a0 (wrap64 ((wrap64 (x3_13 + 1)) + 1)) t309 _ A33.out).mono ?_); rintro e w' ⟨rfl, ⟨nd, rfl⟩⟩; refine ⟨_, rfl, ?_⟩))
                go_ret
                exact ⟨by first | rfl | (simp; done) | (simp [*]; done), by repeat (first | exact Drawn0.refl _ | apply Drawn0.step)⟩
               ·rw [if_neg c34] at H
                have c34b0 : (t309 == 0) = false := beq_eq_false_iff_ne.mpr c34
                have c34b1 : (t309 != 0) = true := bne_iff_ne.mpr c34
                by_cases c35 : x4_13 > 0
                ·rw [if_pos c35] at H
                 have c35b0 : decide (0 < x4_13) = true := decide_eq_true c35
                 clear c35
                 obtain rfl := Option.some.inj H
                 go_wp2_with (first | ((with_reducible refine gate_callee (f := 66) rfl ?_); refine goesL_ (some 84) rfl rfl Tryz.func66 (by kernel_rfl) rfl #[.string a0, .int .i64 (wrap64 ((wrap64 (x3_13 + 1)) + 1))] rfl (by (try simp only [List.map_toArray, List.map_cons, List.map_nil]); first | done | rfl | (simp only [List.length_drop, List.length_take]; rfl)) ?_; (with_reducible refine (soundingsref04_digits.calls kj24 a0 (wrap64 ((wrap64 (x3_13 + 1)) + 1)) t309 _ A33.out).mono ?_); rintro e w' ⟨rfl, ⟨nd, rfl⟩⟩; refine ⟨_, rfl, ?_⟩))
                 go_ret
                 exact ⟨by first | rfl | (simp; done) | (simp [*]; done), by repeat (first | exact Drawn0.refl _ | apply Drawn0.step)⟩
                ·rw [if_neg c35] at H
                 have c35b0 : decide (0 < x4_13) = false := decide_eq_false c35
                 clear c35
                 obtain rfl := Option.some.inj H
                 go_wp2_with (first | ((with_reducible refine gate_callee (f := 66) rfl ?_); refine goesL_ (some 84) rfl rfl Tryz.func66 (by kernel_rfl) rfl #[.string a0, .int .i64 (wrap64 ((wrap64 (x3_13 + 1)) + 1))] rfl (by (try simp only [List.map_toArray, List.map_cons, List.map_nil]); first | done | rfl | (simp only [List.length_drop, List.length_take]; rfl)) ?_; (with_reducible refine (soundingsref04_digits.calls kj24 a0 (wrap64 ((wrap64 (x3_13 + 1)) + 1)) t309 _ A33.out).mono ?_); rintro e w' ⟨rfl, ⟨nd, rfl⟩⟩; refine ⟨_, rfl, ?_⟩))
                 go_ret
                 exact ⟨by first | rfl | (simp; done) | (simp [*]; done), by repeat (first | exact Drawn0.refl _ | apply Drawn0.step)⟩
              ·replace c32 := Bool.eq_false_iff.mpr c32
               subst c32
               have H1 : ((soundingsref04_digits.f kj24 a0 (wrap64 (x3_13 + 1))).bind fun t310 => (if t310 = 0 then (some false) else (if x4_13 > 0 then (some ((wrap64 ((wrap64 (x3_13 + 1)) + t310)) == (a0.size : Int))) else (some false)))) = some r := by rw [if_neg (show ¬ (false = true) by decide)] at H; exact H
               clear H
               have H := H1
               clear H1
               replace H := Option.bind_eq_some_iff.mp H
               obtain ⟨t310, A360, H⟩ := H
               replace H : (if t310 = 0 then (some false) else (if x4_13 > 0 then (some ((wrap64 ((wrap64 (x3_13 + 1)) + t310)) == (a0.size : Int))) else (some false))) = some r := H
               have A36 := Aside0.mk A360
               clear A360
               by_cases c37 : t310 = 0
               ·rw [if_pos c37] at H
                have c37b0 : (t310 == 0) = true := beq_iff_eq.mpr c37
                have c37b1 : (t310 != 0) = false := bne_eq_false_iff_eq.mpr c37
                clear c37
                obtain rfl := Option.some.inj H
                go_wp2_with (first | ((with_reducible refine gate_callee (f := 66) rfl ?_); refine goesL_ (some 84) rfl rfl Tryz.func66 (by kernel_rfl) rfl #[.string a0, .int .i64 (wrap64 (x3_13 + 1))] rfl (by (try simp only [List.map_toArray, List.map_cons, List.map_nil]); first | done | rfl | (simp only [List.length_drop, List.length_take]; rfl)) ?_; (with_reducible refine (soundingsref04_digits.calls kj24 a0 (wrap64 (x3_13 + 1)) t310 _ A36.out).mono ?_); rintro e w' ⟨rfl, ⟨nd, rfl⟩⟩; refine ⟨_, rfl, ?_⟩))
                go_ret
                exact ⟨by first | rfl | (simp; done) | (simp [*]; done), by repeat (first | exact Drawn0.refl _ | apply Drawn0.step)⟩
               ·rw [if_neg c37] at H
                have c37b0 : (t310 == 0) = false := beq_eq_false_iff_ne.mpr c37
                have c37b1 : (t310 != 0) = true := bne_iff_ne.mpr c37
                by_cases c38 : x4_13 > 0
                ·rw [if_pos c38] at H
                 have c38b0 : decide (0 < x4_13) = true := decide_eq_true c38
                 clear c38
                 obtain rfl := Option.some.inj H
                 go_wp2_with (first | ((with_reducible refine gate_callee (f := 66) rfl ?_); refine goesL_ (some 84) rfl rfl Tryz.func66 (by kernel_rfl) rfl #[.string a0, .int .i64 (wrap64 (x3_13 + 1))] rfl (by (try simp only [List.map_toArray, List.map_cons, List.map_nil]); first | done | rfl | (simp only [List.length_drop, List.length_take]; rfl)) ?_; (with_reducible refine (soundingsref04_digits.calls kj24 a0 (wrap64 (x3_13 + 1)) t310 _ A36.out).mono ?_); rintro e w' ⟨rfl, ⟨nd, rfl⟩⟩; refine ⟨_, rfl, ?_⟩))
                 go_ret
                 exact ⟨by first | rfl | (simp; done) | (simp [*]; done), by repeat (first | exact Drawn0.refl _ | apply Drawn0.step)⟩
                ·rw [if_neg c38] at H
                 have c38b0 : decide (0 < x4_13) = false := decide_eq_false c38
                 clear c38
                 obtain rfl := Option.some.inj H
                 go_wp2_with (first | ((with_reducible refine gate_callee (f := 66) rfl ?_); refine goesL_ (some 84) rfl rfl Tryz.func66 (by kernel_rfl) rfl #[.string a0, .int .i64 (wrap64 (x3_13 + 1))] rfl (by (try simp only [List.map_toArray, List.map_cons, List.map_nil]); first | done | rfl | (simp only [List.length_drop, List.length_take]; rfl)) ?_; (with_reducible refine (soundingsref04_digits.calls kj24 a0 (wrap64 (x3_13 + 1)) t310 _ A36.out).mono ?_); rintro e w' ⟨rfl, ⟨nd, rfl⟩⟩; refine ⟨_, rfl, ?_⟩))
                 go_ret
                 exact ⟨by first | rfl | (simp; done) | (simp [*]; done), by repeat (first | exact Drawn0.refl _ | apply Drawn0.step)⟩
           ·replace c24 := Bool.eq_false_iff.mpr c24
            subst c24
            have H1 : (if x4_13 > 0 then (some (x3_13 == (a0.size : Int))) else (some false)) = some r := by rw [if_neg (show ¬ (false = true) by decide)] at H; exact H
            clear H
            have H := H1
            clear H1
            by_cases c39 : x4_13 > 0
            ·rw [if_pos c39] at H
             have c39b0 : decide (0 < x4_13) = true := decide_eq_true c39
             clear c39
             obtain rfl := Option.some.inj H
             go_wp2
             go_ret
             exact ⟨by first | rfl | (simp; done) | (simp [*]; done), by repeat (first | exact Drawn0.refl _ | apply Drawn0.step)⟩
            ·rw [if_neg c39] at H
             have c39b0 : decide (0 < x4_13) = false := decide_eq_false c39
             clear c39
             obtain rfl := Option.some.inj H
             go_wp2
             go_ret
             exact ⟨by first | rfl | (simp; done) | (simp [*]; done), by repeat (first | exact Drawn0.refl _ | apply Drawn0.step)⟩

end Go.Proofs.YtjleceekccehoaaGreatDoor.Pr
