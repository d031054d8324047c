/- Texts of this session, cut down to what one claim needs and joined: PrSoundingsref05Same. -/
import Derived.Test.YtfbockgjhbfidaaGreatDoorQPr0
import Derived.Test.YtfbockgjhbfidaaGreatDoorQGPr
import Derived.Test.YtfbockgjhbfidaaGreatDoorQGPs
-- Written by a program of this session (wip/hook.py) out of the translation. Not trusted: Lean checks it.
namespace Go.Proofs.YtfbockgjhbfidaaGreatDoor.Pr
open Go.RowKit Go.Proofs.YtfbockgjhbfidaaGreatDoorW.PrintWords Go.Proofs.YtfbockgjhbfidaaGreatDoorW.PrintLast Go.Proofs.YtfbockgjhbfidaaGreatDoorW.PrintMore
attribute [local go_sem] max2_int min2_int max_two min_two max_three min_three max_four min_four   -- for this text's walks alone
set_option linter.unusedVariables false
set_option linter.unusedSimpArgs false

/-! ### soundingsref05_Same: function 13 -/
def soundingsref05_Same.l0 : Nat → List (S47) → List (S47) → Int → Option (Bool)
 | 0, _, _, _ => none
 | k + 1, x0, x1, x5 => if x5 < (x0.length : Int) then (if 0 ≤ x5 then (if x5 < (x1.length : Int) then ((soundingsref01_Cmp.f k ((rd_T47 x0 x5).f0) ((rd_T47 x1 x5).f0)).bind fun t296 => (if t296 = 0 then ((soundingsref05_Points.f k ((rd_T47 x0 x5).f1) ((rd_T47 x1 x5).f1)).bind fun t299 => (if t299 = true then (soundingsref05_Same.l0 k x0 x1 (wrap64 (x5 + 1))) else (some false))) else (some false))) else (none)) else (none)) else (some true)
def soundingsref05_Same.f (k : Nat) (l0 : List (S47)) (l1 : List (S47)) : Option (Bool) := if (l0.length : Int) = (l1.length : Int) then (soundingsref05_Same.l0 k l0 l1 0) else (some false)
theorem soundingsref05_Same.mono_l : ∀ k, (∀ y0 y1 y2, LeO (soundingsref05_Same.l0 k y0 y1 y2) (soundingsref05_Same.l0 (k + 1) y0 y1 y2))
 | 0 => fun _ _ _ r h => by simp [soundingsref05_Same.l0] at h
 | k + 1 => by
  have ih0 := soundingsref05_Same.mono_l k
  ·intro y0 y1 y2
   unfold soundingsref05_Same.l0
   repeat' first
   | (with_reducible exact ih0 _ _ _)
   | (with_reducible exact soundingsref01_Cmp.mono _ _ _)
   | (with_reducible exact soundingsref05_Points.mono _ _ _)
   | (with_reducible exact LeO.refl _)
   | (with_reducible exact LeO.none _)
   | (with_reducible refine LeO.ite ?_ ?_)
   | (with_reducible refine LeO.bind ?_ (fun _ => ?_))
   | exact ih0 _ _ _
   | exact soundingsref01_Cmp.mono _ _ _
   | exact soundingsref05_Points.mono _ _ _
   | exact LeO.none _
   | refine LeO.ite ?_ ?_
   | refine LeO.bind ?_ (fun _ => ?_)
theorem soundingsref05_Same.mono : ∀ a0 a1 k, LeO (soundingsref05_Same.f k a0 a1) (soundingsref05_Same.f (k + 1) a0 a1) := by
 intro a0 a1 k
 have ih0 := soundingsref05_Same.mono_l k
 unfold soundingsref05_Same.f
 repeat' first
   | (with_reducible exact ih0 _ _ _)
   | (with_reducible exact soundingsref01_Cmp.mono _ _ _)
   | (with_reducible exact soundingsref05_Points.mono _ _ _)
   | (with_reducible exact LeO.refl _)
   | (with_reducible exact LeO.none _)
   | (with_reducible refine LeO.ite ?_ ?_)
   | (with_reducible refine LeO.bind ?_ (fun _ => ?_))
   | exact ih0 _ _ _
   | exact soundingsref01_Cmp.mono _ _ _
   | exact soundingsref05_Points.mono _ _ _
   | exact LeO.none _
   | refine LeO.ite ?_ ?_
   | refine LeO.bind ?_ (fun _ => ?_)
set_option maxHeartbeats 8000000 in
set_option maxRecDepth 100000 in
theorem soundingsref05_Same.calls (k : Nat) (A0 : Option Addr) (c0 : Nat) (l0 : List (S47)) (A1 : Option Addr) (c1 : Nat) (l1 : List (S47)) (r : Bool) (w : World) (hr0 : Kd.C k47 w A0 l0.length l0) (hc0 : l0.length ≤ c0) (hr1 : Kd.C k47 w A1 l1.length l1) (hc1 : l1.length ≤ c1) (h : soundingsref05_Same.f k l0 l1 = some r) :
  Calls Tryz.prog 13 #[.slice A0 l0.length c0, .slice A1 l1.length c1] w fun e w' => e = .returned (.bool r) ∧ Drawn0 w w' := by
 have HR0 := Aside0.mk hr0
 have HC0 := Aside0.mk hc0
 clear hr0 hc0
 have HR1 := Aside0.mk hr1
 have HC1 := Aside0.mk hc1
 clear hr1 hc1
 have H : (if (l0.length : Int) = (l1.length : Int) then (soundingsref05_Same.l0 k l0 l1 0) else (some false)) = some r := h
 clear h
 by_cases c3 : (l0.length : Int) = (l1.length : Int)
 ·rw [if_pos c3] at H
  have c3b0 : ((l0.length : Int) == (l1.length : Int)) = true := beq_iff_eq.mpr c3
  have c3b1 : ((l0.length : Int) != (l1.length : Int)) = false := bne_eq_false_iff_eq.mpr c3
  have c3b2 : (l0.length == l1.length) = true := by first | simpa using c3 | (simp at c3 ⊢; omega)
  clear c3
  have H' := Aside0.mk H
  clear H
  go_enter Tryz.func13, Tryz.ntmps13
  go_wp2
  repeat (go_quiet (fail); try go_wp2)
  go_loopg [5] k (fun kq v5 w' => ∃ (x5_1 : Int), v5 = .int .i64 x5_1 ∧ Aside0 (soundingsref05_Same.l0 kq l0 l1 x5_1 = some r) ∧ Aside0 (kq ≤ k) ∧ Drawn0 w w')
  case atStart => exact ⟨(0), (by first | rfl | (simp; done) | (simp [*]; done)), H', ⟨Nat.le_refl _⟩, by repeat (first | exact Drawn0.refl _ | apply Drawn0.step)⟩
  case round =>
   clear H'
   try clear c1
   try clear p2
   try clear c3
   try clear c3b0
   try clear c3b1
   try clear c3b2
   obtain ⟨x5_1, rfl, HA, HK1, ⟨m1, rfl⟩⟩ := hrel
   cases gk with
   | zero => exact absurd HA.out (by simp [soundingsref05_Same.l0])
   | succ k1 =>
    have H := HA.out
    clear HA
    simp only [soundingsref05_Same.l0] at H
    by_cases c4 : x5_1 < (l0.length : Int)
    ·rw [if_pos c4] at H
     have c4b0 : decide (x5_1 < (l0.length : Int)) = true := decide_eq_true c4
     clear c4
     by_cases c5 : 0 ≤ x5_1
     ·rw [if_pos c5] at H
      have c5b0 : decide (0 ≤ x5_1) = true := decide_eq_true c5
      clear c5
      by_cases c6 : x5_1 < (l1.length : Int)
      ·rw [if_pos c6] at H
       have c6b0 : decide (x5_1 < (l1.length : Int)) = true := decide_eq_true c6
       clear c6
       replace H := Option.bind_eq_some_iff.mp H
       obtain ⟨t296, A70, H⟩ := H
       replace H : (if t296 = 0 then ((soundingsref05_Points.f k1 ((rd_T47 l0 x5_1).f1) ((rd_T47 l1 x5_1).f1)).bind fun t299 => (if t299 = true then (soundingsref05_Same.l0 k1 l0 l1 (wrap64 (x5_1 + 1))) else (some false))) else (some false)) = some r := H
       have A7 := Aside0.mk A70
       clear A70
       by_cases c8 : t296 = 0
       ·rw [if_pos c8] at H
        have c8b0 : (t296 == 0) = true := beq_iff_eq.mpr c8
        have c8b1 : (t296 != 0) = false := bne_eq_false_iff_eq.mpr c8
        clear c8
        replace H := Option.bind_eq_some_iff.mp H
        obtain ⟨t299, A90, H⟩ := H
        replace H : (if t299 = true then (soundingsref05_Same.l0 k1 l0 l1 (wrap64 (x5_1 + 1))) else (some false)) = some r := H
        have A9 := Aside0.mk A90
        clear A90
        by_cases c10 : t299 = true
        ·subst c10
         have H1 : (soundingsref05_Same.l0 k1 l0 l1 (wrap64 (x5_1 + 1))) = some r := by rw [if_pos rfl] at H; exact H
         clear H
         have H := H1
         clear H1
         have H' := Aside0.mk H
         clear H
         have p294 : 0 ≤ (x5_1 : Int) := of_decide_eq_true (by first | (with_reducible assumption) | assumption)
         have q294 : x5_1 < (l0.length : Int) := of_decide_eq_true (by first | (with_reducible assumption) | assumption)
         obtain ⟨ad294, A294_0, c294_0, A294_1, c294_1, e294, hx294_0, hx294_1, hl294_0, hi294_0, hl294_1, hi294_1⟩ := at_T47 HR0.out x5_1 p294 q294
         cases e294
         have HR294_0 := Aside0.mk hi294_0
         have HC294_0 := Aside0.mk hl294_0
         clear hi294_0 hl294_0
         have HR294_1 := Aside0.mk hi294_1
         have HC294_1 := Aside0.mk hl294_1
         clear hi294_1 hl294_1
         replace p294 := eq_true p294
         replace q294 := eq_true q294
         have p295 : 0 ≤ (x5_1 : Int) := of_decide_eq_true (by first | (with_reducible assumption) | assumption)
         have q295 : x5_1 < (l1.length : Int) := of_decide_eq_true (by first | (with_reducible assumption) | assumption)
         obtain ⟨ad295, A295_0, c295_0, A295_1, c295_1, e295, hx295_0, hx295_1, hl295_0, hi295_0, hl295_1, hi295_1⟩ := at_T47 HR1.out x5_1 p295 q295
         cases e295
         have HR295_0 := Aside0.mk hi295_0
         have HC295_0 := Aside0.mk hl295_0
         clear hi295_0 hl295_0
         have HR295_1 := Aside0.mk hi295_1
         have HC295_1 := Aside0.mk hl295_1
         clear hi295_1 hl295_1
         replace p295 := eq_true p295
         replace q295 := eq_true q295
         go_wp2_with (first | (go_at_call 25; (with_reducible refine (soundingsref01_Cmp.calls k1 _ _ ((rd_T47 l0 x5_1).f0) _ _ ((rd_T47 l1 x5_1).f0) t296 _ ?side1 ?side2 ?side3 ?side4 A7.out).mono ?_); (case side1 => repeat (first | exact HR294_0.out | (with_reducible refine Kd.C_alloc ?_ _) | (with_reducible refine Kd.C_drewN ?_ _) | (with_reducible refine Kd.C_drew ?_))); (case side2 => exact HC294_0.out); (case side3 => repeat (first | exact HR295_0.out | (with_reducible refine Kd.C_alloc ?_ _) | (with_reducible refine Kd.C_drewN ?_ _) | (with_reducible refine Kd.C_drew ?_))); (case side4 => exact HC295_0.out); rintro e w' ⟨rfl, ⟨nd, rfl⟩⟩; (try first | exact ⟨rfl, _, World.drewN_drewN _ _ _⟩ | exact ⟨rfl, _, Eq.trans (World.drewN_drewN _ _ _) (congrArg (World.drewN _) (Nat.add_assoc _ _ _))⟩); have p297 : 0 ≤ (x5_1 : Int) := of_decide_eq_true (by first | (with_reducible assumption) | assumption); have q297 : x5_1 < (l0.length : Int) := of_decide_eq_true (by first | (with_reducible assumption) | assumption); obtain ⟨ad297, A297_0, c297_0, A297_1, c297_1, e297, hx297_0, hx297_1, hl297_0, hi297_0, hl297_1, hi297_1⟩ := at_T47 HR0.out x5_1 p297 q297; obtain rfl : ad294 = ad297 := (by injection e297); have HR297_0 := Aside0.mk hi297_0; have HC297_0 := Aside0.mk hl297_0; clear hi297_0 hl297_0; have HR297_1 := Aside0.mk hi297_1; have HC297_1 := Aside0.mk hl297_1; clear hi297_1 hl297_1; replace p297 := eq_true p297; replace q297 := eq_true q297; have ea_ := Option.some.inj (hx294_0.symm.trans hx297_0); injection ea_ with ea_ en_ ec_; subst ea_; subst ec_; clear en_; have ea_ := Option.some.inj (hx294_1.symm.trans hx297_1); injection ea_ with ea_ en_ ec_; subst ea_; subst ec_; clear en_; have p298 : 0 ≤ (x5_1 : Int) := of_decide_eq_true (by first | (with_reducible assumption) | assumption); have q298 : x5_1 < (l1.length : Int) := of_decide_eq_true (by first | (with_reducible assumption) | assumption); obtain ⟨ad298, A298_0, c298_0, A298_1, c298_1, e298, hx298_0, hx298_1, hl298_0, hi298_0, hl298_1, hi298_1⟩ := at_T47 HR1.out x5_1 p298 q298; obtain rfl : ad295 = ad298 := (by injection e298); have HR298_0 := Aside0.mk hi298_0; have HC298_0 := Aside0.mk hl298_0; clear hi298_0 hl298_0; have HR298_1 := Aside0.mk hi298_1; have HC298_1 := Aside0.mk hl298_1; clear hi298_1 hl298_1; replace p298 := eq_true p298; replace q298 := eq_true q298; have ea_ := Option.some.inj (hx295_0.symm.trans hx298_0); injection ea_ with ea_ en_ ec_; subst ea_; subst ec_; clear en_; have ea_ := Option.some.inj (hx295_1.symm.trans hx298_1); injection ea_ with ea_ en_ ec_; subst ea_; subst ec_; clear en_) | (go_at_call 32; (with_reducible refine (soundingsref05_Points.calls k1 _ _ ((rd_T47 l0 x5_1).f1) _ _ ((rd_T47 l1 x5_1).f1) true _ ?side1 ?side2 ?side3 ?side4 A9.out).mono ?_); (case side1 => repeat (first | exact HR297_1.out | (with_reducible refine Kd.C_alloc ?_ _) | (with_reducible refine Kd.C_drewN ?_ _) | (with_reducible refine Kd.C_drew ?_))); (case side2 => exact HC297_1.out); (case side3 => repeat (first | exact HR298_1.out | (with_reducible refine Kd.C_alloc ?_ _) | (with_reducible refine Kd.C_drewN ?_ _) | (with_reducible refine Kd.C_drew ?_))); (case side4 => exact HC298_1.out); rintro e w' ⟨rfl, ⟨nd, rfl⟩⟩; (try first | exact ⟨rfl, _, World.drewN_drewN _ _ _⟩ | exact ⟨rfl, _, Eq.trans (World.drewN_drewN _ _ _) (congrArg (World.drewN _) (Nat.add_assoc _ _ _))⟩)))
         repeat (go_quiet (first | (go_at_call 25; (with_reducible refine (soundingsref01_Cmp.calls k1 _ _ ((rd_T47 l0 x5_1).f0) _ _ ((rd_T47 l1 x5_1).f0) t296 _ ?side1 ?side2 ?side3 ?side4 A7.out).mono ?_); (case side1 => repeat (first | exact HR294_0.out | (with_reducible refine Kd.C_alloc ?_ _) | (with_reducible refine Kd.C_drewN ?_ _) | (with_reducible refine Kd.C_drew ?_))); (case side2 => exact HC294_0.out); (case side3 => repeat (first | exact HR295_0.out | (with_reducible refine Kd.C_alloc ?_ _) | (with_reducible refine Kd.C_drewN ?_ _) | (with_reducible refine Kd.C_drew ?_))); (case side4 => exact HC295_0.out); rintro e w' ⟨rfl, ⟨nd, rfl⟩⟩; (try first | exact ⟨rfl, _, World.drewN_drewN _ _ _⟩ | exact ⟨rfl, _, Eq.trans (World.drewN_drewN _ _ _) (congrArg (World.drewN _) (Nat.add_assoc _ _ _))⟩); have p297 : 0 ≤ (x5_1 : Int) := of_decide_eq_true (by first | (with_reducible assumption) | assumption); have q297 : x5_1 < (l0.length : Int) := of_decide_eq_true (by first | (with_reducible assumption) | assumption); obtain ⟨ad297, A297_0, c297_0, A297_1, c297_1, e297, hx297_0, hx297_1, hl297_0, hi297_0, hl297_1, hi297_1⟩ := at_T47 HR0.out x5_1 p297 q297; obtain rfl : ad294 = ad297 := (by injection e297); have HR297_0 := Aside0.mk hi297_0; have HC297_0 := Aside0.mk hl297_0; clear hi297_0 hl297_0; have HR297_1 := Aside0.mk hi297_1; have HC297_1 := Aside0.mk hl297_1; clear hi297_1 hl297_1; replace p297 := eq_true p297; replace q297 := eq_true q297; have ea_ := Option.some.inj (hx294_0.symm.trans hx297_0); injection ea_ with ea_ en_ ec_; subst ea_; subst ec_; clear en_; have ea_ := Option.some.inj (hx294_1.symm.trans hx297_1); injection ea_ with ea_ en_ ec_; subst ea_; subst ec_; clear en_; have p298 : 0 ≤ (x5_1 : Int) := of_decide_eq_true (by first | (with_reducible assumption) | assumption); have q298 : x5_1 < (l1.length : Int) := of_decide_eq_true (by first | (with_reducible assumption) | assumption); obtain ⟨ad298, A298_0, c298_0, A298_1, c298_1, e298, hx298_0, hx298_1, hl298_0, hi298_0, hl298_1, hi298_1⟩ := at_T47 HR1.out x5_1 p298 q298; obtain rfl : ad295 = ad298 := (by injection e298); have HR298_0 := Aside0.mk hi298_0; have HC298_0 := Aside0.mk hl298_0; clear hi298_0 hl298_0; have HR298_1 := Aside0.mk hi298_1; have HC298_1 := Aside0.mk hl298_1; clear hi298_1 hl298_1; replace p298 := eq_true p298; replace q298 := eq_true q298; have ea_ := Option.some.inj (hx295_0.symm.trans hx298_0); injection ea_ with ea_ en_ ec_; subst ea_; subst ec_; clear en_; have ea_ := Option.some.inj (hx295_1.symm.trans hx298_1); injection ea_ with ea_ en_ ec_; subst ea_; subst ec_; clear en_) | (go_at_call 32; (with_reducible refine (soundingsref05_Points.calls k1 _ _ ((rd_T47 l0 x5_1).f1) _ _ ((rd_T47 l1 x5_1).f1) true _ ?side1 ?side2 ?side3 ?side4 A9.out).mono ?_); (case side1 => repeat (first | exact HR297_1.out | (with_reducible refine Kd.C_alloc ?_ _) | (with_reducible refine Kd.C_drewN ?_ _) | (with_reducible refine Kd.C_drew ?_))); (case side2 => exact HC297_1.out); (case side3 => repeat (first | exact HR298_1.out | (with_reducible refine Kd.C_alloc ?_ _) | (with_reducible refine Kd.C_drewN ?_ _) | (with_reducible refine Kd.C_drew ?_))); (case side4 => exact HC298_1.out); rintro e w' ⟨rfl, ⟨nd, rfl⟩⟩; (try first | exact ⟨rfl, _, World.drewN_drewN _ _ _⟩ | exact ⟨rfl, _, Eq.trans (World.drewN_drewN _ _ _) (congrArg (World.drewN _) (Nat.add_assoc _ _ _))⟩))); try go_wp2_with (first | (go_at_call 25; (with_reducible refine (soundingsref01_Cmp.calls k1 _ _ ((rd_T47 l0 x5_1).f0) _ _ ((rd_T47 l1 x5_1).f0) t296 _ ?side1 ?side2 ?side3 ?side4 A7.out).mono ?_); (case side1 => repeat (first | exact HR294_0.out | (with_reducible refine Kd.C_alloc ?_ _) | (with_reducible refine Kd.C_drewN ?_ _) | (with_reducible refine Kd.C_drew ?_))); (case side2 => exact HC294_0.out); (case side3 => repeat (first | exact HR295_0.out | (with_reducible refine Kd.C_alloc ?_ _) | (with_reducible refine Kd.C_drewN ?_ _) | (with_reducible refine Kd.C_drew ?_))); (case side4 => exact HC295_0.out); rintro e w' ⟨rfl, ⟨nd, rfl⟩⟩; (try first | exact ⟨rfl, _, World.drewN_drewN _ _ _⟩ | exact ⟨rfl, _, Eq.trans (World.drewN_drewN _ _ _) (congrArg (World.drewN _) (Nat.add_assoc _ _ _))⟩); have p297 : 0 ≤ (x5_1 : Int) := of_decide_eq_true (by first | (with_reducible assumption) | assumption); have q297 : x5_1 < (l0.length : Int) := of_decide_eq_true (by first | (with_reducible assumption) | assumption); obtain ⟨ad297, A297_0, c297_0, A297_1, c297_1, e297, hx297_0, hx297_1, hl297_0, hi297_0, hl297_1, hi297_1⟩ := at_T47 HR0.out x5_1 p297 q297; obtain rfl : ad294 = ad297 := (by injection e297); have HR297_0 := Aside0.mk hi297_0; have HC297_0 := Aside0.mk hl297_0; clear hi297_0 hl297_0; have HR297_1 := Aside0.mk hi297_1; have HC297_1 := Aside0.mk hl297_1; clear hi297_1 hl297_1; replace p297 := eq_true p297; replace q297 := eq_true q297; have ea_ := Option.some.inj (hx294_0.symm.trans hx297_0); injection ea_ with ea_ en_ ec_; subst ea_; subst ec_; clear en_; have ea_ := Option.some.inj (hx294_1.symm.trans hx297_1); injection ea_ with ea_ en_ ec_; subst ea_; subst ec_; clear en_; have p298 : 0 ≤ (x5_1 : Int) := of_decide_eq_true (by first | (with_reducible assumption) | assumption); have q298 : x5_1 < (l1.length : Int) := of_decide_eq_true (by first | (with_reducible assumption) | assumption); obtain ⟨ad298, A298_0, c298_0, A298_1, c298_1, e298, hx298_0, hx298_1, hl298_0, hi298_0, hl298_1, hi298_1⟩ := at_T47 HR1.out x5_1 p298 q298; obtain rfl : ad295 = ad298 := (by injection e298); have HR298_0 := Aside0.mk hi298_0; have HC298_0 := Aside0.mk hl298_0; clear hi298_0 hl298_0; have HR298_1 := Aside0.mk hi298_1; have HC298_1 := Aside0.mk hl298_1; clear hi298_1 hl298_1; replace p298 := eq_true p298; replace q298 := eq_true q298; have ea_ := Option.some.inj (hx295_0.symm.trans hx298_0); injection ea_ with ea_ en_ ec_; subst ea_; subst ec_; clear en_; have ea_ := Option.some.inj (hx295_1.symm.trans hx298_1); injection ea_ with ea_ en_ ec_; subst ea_; subst ec_; clear en_) | (go_at_call 32; (with_reducible refine (soundingsref05_Points.calls k1 _ _ ((rd_T47 l0 x5_1).f1) _ _ ((rd_T47 l1 x5_1).f1) true _ ?side1 ?side2 ?side3 ?side4 A9.out).mono ?_); (case side1 => repeat (first | exact HR297_1.out | (with_reducible refine Kd.C_alloc ?_ _) | (with_reducible refine Kd.C_drewN ?_ _) | (with_reducible refine Kd.C_drew ?_))); (case side2 => exact HC297_1.out); (case side3 => repeat (first | exact HR298_1.out | (with_reducible refine Kd.C_alloc ?_ _) | (with_reducible refine Kd.C_drewN ?_ _) | (with_reducible refine Kd.C_drew ?_))); (case side4 => exact HC298_1.out); rintro e w' ⟨rfl, ⟨nd, rfl⟩⟩; (try first | exact ⟨rfl, _, World.drewN_drewN _ _ _⟩ | exact ⟨rfl, _, Eq.trans (World.drewN_drewN _ _ _) (congrArg (World.drewN _) (Nat.add_assoc _ _ _))⟩))))
         go_roundg k1
         case measure => have := HK1.out; omega
         case rel => exact ⟨(wrap64 (x5_1 + 1)), (by first | rfl | (simp; done) | (simp [*]; done)), H', ⟨by have := HK1.out; omega⟩, by repeat (first | exact Drawn0.refl _ | apply Drawn0.step)⟩
        ·replace c10 := Bool.eq_false_iff.mpr c10
         subst c10
         have H1 : (some false) = some r := by rw [if_neg (show ¬ (false = true) by decide)] at H; exact H
         clear H
         have H := H1
         clear H1
         obtain rfl := Option.some.inj H
         have p294 : 0 ≤ (x5_1 : Int) := of_decide_eq_true (by first | (with_reducible assumption) | assumption)
         have q294 : x5_1 < (l0.length : Int) := of_decide_eq_true (by first | (with_reducible assumption) | assumption)
         obtain ⟨ad294, A294_0, c294_0, A294_1, c294_1, e294, hx294_0, hx294_1, hl294_0, hi294_0, hl294_1, hi294_1⟩ := at_T47 HR0.out x5_1 p294 q294
         cases e294
         have HR294_0 := Aside0.mk hi294_0
         have HC294_0 := Aside0.mk hl294_0
         clear hi294_0 hl294_0
         have HR294_1 := Aside0.mk hi294_1
         have HC294_1 := Aside0.mk hl294_1
         clear hi294_1 hl294_1
         replace p294 := eq_true p294
         replace q294 := eq_true q294
         have p295 : 0 ≤ (x5_1 : Int) := of_decide_eq_true (by first | (with_reducible assumption) | assumption)
         have q295 : x5_1 < (l1.length : Int) := of_decide_eq_true (by first | (with_reducible assumption) | assumption)
         obtain ⟨ad295, A295_0, c295_0, A295_1, c295_1, e295, hx295_0, hx295_1, hl295_0, hi295_0, hl295_1, hi295_1⟩ := at_T47 HR1.out x5_1 p295 q295
         cases e295
         have HR295_0 := Aside0.mk hi295_0
         have HC295_0 := Aside0.mk hl295_0
         clear hi295_0 hl295_0
         have HR295_1 := Aside0.mk hi295_1
         have HC295_1 := Aside0.mk hl295_1
         clear hi295_1 hl295_1
         replace p295 := eq_true p295
         replace q295 := eq_true q295
         go_wp2_with (first | (go_at_call 25; (with_reducible refine (soundingsref01_Cmp.calls k1 _ _ ((rd_T47 l0 x5_1).f0) _ _ ((rd_T47 l1 x5_1).f0) t296 _ ?side1 ?side2 ?side3 ?side4 A7.out).mono ?_); (case side1 => repeat (first | exact HR294_0.out | (with_reducible refine Kd.C_alloc ?_ _) | (with_reducible refine Kd.C_drewN ?_ _) | (with_reducible refine Kd.C_drew ?_))); (case side2 => exact HC294_0.out); (case side3 => repeat (first | exact HR295_0.out | (with_reducible refine Kd.C_alloc ?_ _) | (with_reducible refine Kd.C_drewN ?_ _) | (with_reducible refine Kd.C_drew ?_))); (case side4 => exact HC295_0.out); rintro e w' ⟨rfl, ⟨nd, rfl⟩⟩; (try first | exact ⟨rfl, _, World.drewN_drewN _ _ _⟩ | exact ⟨rfl, _, Eq.trans (World.drewN_drewN _ _ _) (congrArg (World.drewN _) (Nat.add_assoc _ _ _))⟩); have p297 : 0 ≤ (x5_1 : Int) := of_decide_eq_true (by first | (with_reducible assumption) | assumption); have q297 : x5_1 < (l0.length : Int) := of_decide_eq_true (by first | (with_reducible assumption) | assumption); obtain ⟨ad297, A297_0, c297_0, A297_1, c297_1, e297, hx297_0, hx297_1, hl297_0, hi297_0, hl297_1, hi297_1⟩ := at_T47 HR0.out x5_1 p297 q297; obtain rfl : ad294 = ad297 := (by injection e297); have HR297_0 := Aside0.mk hi297_0; have HC297_0 := Aside0.mk hl297_0; clear hi297_0 hl297_0; have HR297_1 := Aside0.mk hi297_1; have HC297_1 := Aside0.mk hl297_1; clear hi297_1 hl297_1; replace p297 := eq_true p297; replace q297 := eq_true q297; have ea_ := Option.some.inj (hx294_0.symm.trans hx297_0); injection ea_ with ea_ en_ ec_; subst ea_; subst ec_; clear en_; have ea_ := Option.some.inj (hx294_1.symm.trans hx297_1); injection ea_ with ea_ en_ ec_; subst ea_; subst ec_; clear en_; have p298 : 0 ≤ (x5_1 : Int) := of_decide_eq_true (by first | (with_reducible assumption) | assumption); have q298 : x5_1 < (l1.length : Int) := of_decide_eq_true (by first | (with_reducible assumption) | assumption); obtain ⟨ad298, A298_0, c298_0, A298_1, c298_1, e298, hx298_0, hx298_1, hl298_0, hi298_0, hl298_1, hi298_1⟩ := at_T47 HR1.out x5_1 p298 q298; obtain rfl : ad295 = ad298 := (by injection e298); have HR298_0 := Aside0.mk hi298_0; have HC298_0 := Aside0.mk hl298_0; clear hi298_0 hl298_0; have HR298_1 := Aside0.mk hi298_1; have HC298_1 := Aside0.mk hl298_1; clear hi298_1 hl298_1; replace p298 := eq_true p298; replace q298 := eq_true q298; have ea_ := Option.some.inj (hx295_0.symm.trans hx298_0); injection ea_ with ea_ en_ ec_; subst ea_; subst ec_; clear en_; have ea_ := Option.some.inj (hx295_1.symm.trans hx298_1); injection ea_ with ea_ en_ ec_; subst ea_; subst ec_; clear en_) | (go_at_call 32; (with_reducible refine (soundingsref05_Points.calls k1 _ _ ((rd_T47 l0 x5_1).f1) _ _ ((rd_T47 l1 x5_1).f1) false _ ?side1 ?side2 ?side3 ?side4 A9.out).mono ?_); (case side1 => repeat (first | exact HR297_1.out | (with_reducible refine Kd.C_alloc ?_ _) | (with_reducible refine Kd.C_drewN ?_ _) | (with_reducible refine Kd.C_drew ?_))); (case side2 => exact HC297_1.out); (case side3 => repeat (first | exact HR298_1.out | (with_reducible refine Kd.C_alloc ?_ _) | (with_reducible refine Kd.C_drewN ?_ _) | (with_reducible refine Kd.C_drew ?_))); (case side4 => exact HC298_1.out); rintro e w' ⟨rfl, ⟨nd, rfl⟩⟩; (try first | exact ⟨rfl, _, World.drewN_drewN _ _ _⟩ | exact ⟨rfl, _, Eq.trans (World.drewN_drewN _ _ _) (congrArg (World.drewN _) (Nat.add_assoc _ _ _))⟩)))
         repeat (go_quiet (first | (go_at_call 25; (with_reducible refine (soundingsref01_Cmp.calls k1 _ _ ((rd_T47 l0 x5_1).f0) _ _ ((rd_T47 l1 x5_1).f0) t296 _ ?side1 ?side2 ?side3 ?side4 A7.out).mono ?_); (case side1 => repeat (first | exact HR294_0.out | (with_reducible refine Kd.C_alloc ?_ _) | (with_reducible refine Kd.C_drewN ?_ _) | (with_reducible refine Kd.C_drew ?_))); (case side2 => exact HC294_0.out); (case side3 => repeat (first | exact HR295_0.out | (with_reducible refine Kd.C_alloc ?_ _) | (with_reducible refine Kd.C_drewN ?_ _) | (with_reducible refine Kd.C_drew ?_))); (case side4 => exact HC295_0.out); rintro e w' ⟨rfl, ⟨nd, rfl⟩⟩; (try first | exact ⟨rfl, _, World.drewN_drewN _ _ _⟩ | exact ⟨rfl, _, Eq.trans (World.drewN_drewN _ _ _) (congrArg (World.drewN _) (Nat.add_assoc _ _ _))⟩); have p297 : 0 ≤ (x5_1 : Int) := of_decide_eq_true (by first | (with_reducible assumption) | assumption); have q297 : x5_1 < (l0.length : Int) := of_decide_eq_true (by first | (with_reducible assumption) | assumption); obtain ⟨ad297, A297_0, c297_0, A297_1, c297_1, e297, hx297_0, hx297_1, hl297_0, hi297_0, hl297_1, hi297_1⟩ := at_T47 HR0.out x5_1 p297 q297; obtain rfl : ad294 = ad297 := (by injection e297); have HR297_0 := Aside0.mk hi297_0; have HC297_0 := Aside0.mk hl297_0; clear hi297_0 hl297_0; have HR297_1 := Aside0.mk hi297_1; have HC297_1 := Aside0.mk hl297_1; clear hi297_1 hl297_1; replace p297 := eq_true p297; replace q297 := eq_true q297; have ea_ := Option.some.inj (hx294_0.symm.trans hx297_0); injection ea_ with ea_ en_ ec_; subst ea_; subst ec_; clear en_; have ea_ := Option.some.inj (hx294_1.symm.trans hx297_1); injection ea_ with ea_ en_ ec_; subst ea_; subst ec_; clear en_; have p298 : 0 ≤ (x5_1 : Int) := of_decide_eq_true (by first | (with_reducible assumption) | assumption); have q298 : x5_1 < (l1.length : Int) := of_decide_eq_true (by first | (with_reducible assumption) | assumption); obtain ⟨ad298, A298_0, c298_0, A298_1, c298_1, e298, hx298_0, hx298_1, hl298_0, hi298_0, hl298_1, hi298_1⟩ := at_T47 HR1.out x5_1 p298 q298; obtain rfl : ad295 = ad298 := (by injection e298); have HR298_0 := Aside0.mk hi298_0; have HC298_0 := Aside0.mk hl298_0; clear hi298_0 hl298_0; have HR298_1 := Aside0.mk hi298_1; have HC298_1 := Aside0.mk hl298_1; clear hi298_1 hl298_1; replace p298 := eq_true p298; replace q298 := eq_true q298; have ea_ := Option.some.inj (hx295_0.symm.trans hx298_0); injection ea_ with ea_ en_ ec_; subst ea_; subst ec_; clear en_; have ea_ := Option.some.inj (hx295_1.symm.trans hx298_1); injection ea_ with ea_ en_ ec_; subst ea_; subst ec_; clear en_) | (go_at_call 32; (with_reducible refine (soundingsref05_Points.calls k1 _ _ ((rd_T47 l0 x5_1).f1) _ _ ((rd_T47 l1 x5_1).f1) false _ ?side1 ?side2 ?side3 ?side4 A9.out).mono ?_); (case side1 => repeat (first | exact HR297_1.out | (with_reducible refine Kd.C_alloc ?_ _) | (with_reducible refine Kd.C_drewN ?_ _) | (with_reducible refine Kd.C_drew ?_))); (case side2 => exact HC297_1.out); (case side3 => repeat (first | exact HR298_1.out | (with_reducible refine Kd.C_alloc ?_ _) | (with_reducible refine Kd.C_drewN ?_ _) | (with_reducible refine Kd.C_drew ?_))); (case side4 => exact HC298_1.out); rintro e w' ⟨rfl, ⟨nd, rfl⟩⟩; (try first | exact ⟨rfl, _, World.drewN_drewN _ _ _⟩ | exact ⟨rfl, _, Eq.trans (World.drewN_drewN _ _ _) (congrArg (World.drewN _) (Nat.add_assoc _ _ _))⟩))); try go_wp2_with (first | (go_at_call 25; (with_reducible refine (soundingsref01_Cmp.calls k1 _ _ ((rd_T47 l0 x5_1).f0) _ _ ((rd_T47 l1 x5_1).f0) t296 _ ?side1 ?side2 ?side3 ?side4 A7.out).mono ?_); (case side1 => repeat (first | exact HR294_0.out | (with_reducible refine Kd.C_alloc ?_ _) | (with_reducible refine Kd.C_drewN ?_ _) | (with_reducible refine Kd.C_drew ?_))); (case side2 => exact HC294_0.out); (case side3 => repeat (first | exact HR295_0.out | (with_reducible refine Kd.C_alloc ?_ _) | (with_reducible refine Kd.C_drewN ?_ _) | (with_reducible refine Kd.C_drew ?_))); (case side4 => exact HC295_0.out); rintro e w' ⟨rfl, ⟨nd, rfl⟩⟩; (try first | exact ⟨rfl, _, World.drewN_drewN _ _ _⟩ | exact ⟨rfl, _, Eq.trans (World.drewN_drewN _ _ _) (congrArg (World.drewN _) (Nat.add_assoc _ _ _))⟩); have p297 : 0 ≤ (x5_1 : Int) := of_decide_eq_true (by first | (with_reducible assumption) | assumption); have q297 : x5_1 < (l0.length : Int) := of_decide_eq_true (by first | (with_reducible assumption) | assumption); obtain ⟨ad297, A297_0, c297_0, A297_1, c297_1, e297, hx297_0, hx297_1, hl297_0, hi297_0, hl297_1, hi297_1⟩ := at_T47 HR0.out x5_1 p297 q297; obtain rfl : ad294 = ad297 := (by injection e297); have HR297_0 := Aside0.mk hi297_0; have HC297_0 := Aside0.mk hl297_0; clear hi297_0 hl297_0; have HR297_1 := Aside0.mk hi297_1; have HC297_1 := Aside0.mk hl297_1; clear hi297_1 hl297_1; replace p297 := eq_true p297; replace q297 := eq_true q297; have ea_ := Option.some.inj (hx294_0.symm.trans hx297_0); injection ea_ with ea_ en_ ec_; subst ea_; subst ec_; clear en_; have ea_ := Option.some.inj (hx294_1.symm.trans hx297_1); injection ea_ with ea_ en_ ec_; subst ea_; subst ec_; clear en_; have p298 : 0 ≤ (x5_1 : Int) := of_decide_eq_true (by first | (with_reducible assumption) | assumption); have q298 : x5_1 < (l1.length : Int) := of_decide_eq_true (by first | (with_reducible assumption) | assumption); obtain ⟨ad298, A298_0, c298_0, A298_1, c298_1, e298, hx298_0, hx298_1, hl298_0, hi298_0, hl298_1, hi298_1⟩ := at_T47 HR1.out x5_1 p298 q298; obtain rfl : ad295 = ad298 := (by injection e298); have HR298_0 := Aside0.mk hi298_0; have HC298_0 := Aside0.mk hl298_0; clear hi298_0 hl298_0; have HR298_1 := Aside0.mk hi298_1; have HC298_1 := Aside0.mk hl298_1; clear hi298_1 hl298_1; replace p298 := eq_true p298; replace q298 := eq_true q298; have ea_ := Option.some.inj (hx295_0.symm.trans hx298_0); injection ea_ with ea_ en_ ec_; subst ea_; subst ec_; clear en_; have ea_ := Option.some.inj (hx295_1.symm.trans hx298_1); injection ea_ with ea_ en_ ec_; subst ea_; subst ec_; clear en_) | (go_at_call 32; (with_reducible refine (soundingsref05_Points.calls k1 _ _ ((rd_T47 l0 x5_1).f1) _ _ ((rd_T47 l1 x5_1).f1) false _ ?side1 ?side2 ?side3 ?side4 A9.out).mono ?_); (case side1 => repeat (first | exact HR297_1.out | (with_reducible refine Kd.C_alloc ?_ _) | (with_reducible refine Kd.C_drewN ?_ _) | (with_reducible refine Kd.C_drew ?_))); (case side2 => exact HC297_1.out); (case side3 => repeat (first | exact HR298_1.out | (with_reducible refine Kd.C_alloc ?_ _) | (with_reducible refine Kd.C_drewN ?_ _) | (with_reducible refine Kd.C_drew ?_))); (case side4 => exact HC298_1.out); rintro e w' ⟨rfl, ⟨nd, rfl⟩⟩; (try first | exact ⟨rfl, _, World.drewN_drewN _ _ _⟩ | exact ⟨rfl, _, Eq.trans (World.drewN_drewN _ _ _) (congrArg (World.drewN _) (Nat.add_assoc _ _ _))⟩))))
         go_ret
         exact ⟨by first | rfl | (simp; done) | (simp [*]; done), by repeat (first | exact Drawn0.refl _ | apply Drawn0.step)⟩
       ·rw [if_neg c8] at H
        have c8b0 : (t296 == 0) = false := beq_eq_false_iff_ne.mpr c8
        have c8b1 : (t296 != 0) = true := bne_iff_ne.mpr c8
        obtain rfl := Option.some.inj H
        have p294 : 0 ≤ (x5_1 : Int) := of_decide_eq_true (by first | (with_reducible assumption) | assumption)
        have q294 : x5_1 < (l0.length : Int) := of_decide_eq_true (by first | (with_reducible assumption) | assumption)
        obtain ⟨ad294, A294_0, c294_0, A294_1, c294_1, e294, hx294_0, hx294_1, hl294_0, hi294_0, hl294_1, hi294_1⟩ := at_T47 HR0.out x5_1 p294 q294
        cases e294
        have HR294_0 := Aside0.mk hi294_0
        have HC294_0 := Aside0.mk hl294_0
        clear hi294_0 hl294_0
        have HR294_1 := Aside0.mk hi294_1
        have HC294_1 := Aside0.mk hl294_1
        clear hi294_1 hl294_1
        replace p294 := eq_true p294
        replace q294 := eq_true q294
        have p295 : 0 ≤ (x5_1 : Int) := of_decide_eq_true (by first | (with_reducible assumption) | assumption)
        have q295 : x5_1 < (l1.length : Int) := of_decide_eq_true (by first | (with_reducible assumption) | assumption)
        obtain ⟨ad295, A295_0, c295_0, A295_1, c295_1, e295, hx295_0, hx295_1, hl295_0, hi295_0, hl295_1, hi295_1⟩ := at_T47 HR1.out x5_1 p295 q295
        cases e295
        have HR295_0 := Aside0.mk hi295_0
        have HC295_0 := Aside0.mk hl295_0
        clear hi295_0 hl295_0
        have HR295_1 := Aside0.mk hi295_1
        have HC295_1 := Aside0.mk hl295_1
        clear hi295_1 hl295_1
        replace p295 := eq_true p295
        replace q295 := eq_true q295
        go_wp2_with (first | (go_at_call 25; (with_reducible refine (soundingsref01_Cmp.calls k1 _ _ ((rd_T47 l0 x5_1).f0) _ _ ((rd_T47 l1 x5_1).f0) t296 _ ?side1 ?side2 ?side3 ?side4 A7.out).mono ?_); (case side1 => repeat (first | exact HR294_0.out | (with_reducible refine Kd.C_alloc ?_ _) | (with_reducible refine Kd.C_drewN ?_ _) | (with_reducible refine Kd.C_drew ?_))); (case side2 => exact HC294_0.out); (case side3 => repeat (first | exact HR295_0.out | (with_reducible refine Kd.C_alloc ?_ _) | (with_reducible refine Kd.C_drewN ?_ _) | (with_reducible refine Kd.C_drew ?_))); (case side4 => exact HC295_0.out); rintro e w' ⟨rfl, ⟨nd, rfl⟩⟩; (try first | exact ⟨rfl, _, World.drewN_drewN _ _ _⟩ | exact ⟨rfl, _, Eq.trans (World.drewN_drewN _ _ _) (congrArg (World.drewN _) (Nat.add_assoc _ _ _))⟩)))
        repeat (go_quiet (first | (go_at_call 25; (with_reducible refine (soundingsref01_Cmp.calls k1 _ _ ((rd_T47 l0 x5_1).f0) _ _ ((rd_T47 l1 x5_1).f0) t296 _ ?side1 ?side2 ?side3 ?side4 A7.out).mono ?_); (case side1 => repeat (first | exact HR294_0.out | (with_reducible refine Kd.C_alloc ?_ _) | (with_reducible refine Kd.C_drewN ?_ _) | (with_reducible refine Kd.C_drew ?_))); (case side2 => exact HC294_0.out); (case side3 => repeat (first | exact HR295_0.out | (with_reducible refine Kd.C_alloc ?_ _) | (with_reducible refine Kd.C_drewN ?_ _) | (with_reducible refine Kd.C_drew ?_))); (case side4 => exact HC295_0.out); rintro e w' ⟨rfl, ⟨nd, rfl⟩⟩; (try first | exact ⟨rfl, _, World.drewN_drewN _ _ _⟩ | exact ⟨rfl, _, Eq.trans (World.drewN_drewN _ _ _) (congrArg (World.drewN _) (Nat.add_assoc _ _ _))⟩))); try go_wp2_with (first | (go_at_call 25; (with_reducible refine (soundingsref01_Cmp.calls k1 _ _ ((rd_T47 l0 x5_1).f0) _ _ ((rd_T47 l1 x5_1).f0) t296 _ ?side1 ?side2 ?side3 ?side4 A7.out).mono ?_); (case side1 => repeat (first | exact HR294_0.out | (with_reducible refine Kd.C_alloc ?_ _) | (with_reducible refine Kd.C_drewN ?_ _) | (with_reducible refine Kd.C_drew ?_))); (case side2 => exact HC294_0.out); (case side3 => repeat (first | exact HR295_0.out | (with_reducible refine Kd.C_alloc ?_ _) | (with_reducible refine Kd.C_drewN ?_ _) | (with_reducible refine Kd.C_drew ?_))); (case side4 => exact HC295_0.out); rintro e w' ⟨rfl, ⟨nd, rfl⟩⟩; (try first | exact ⟨rfl, _, World.drewN_drewN _ _ _⟩ | exact ⟨rfl, _, Eq.trans (World.drewN_drewN _ _ _) (congrArg (World.drewN _) (Nat.add_assoc _ _ _))⟩))))
        go_ret
        exact ⟨by first | rfl | (simp; done) | (simp [*]; done), by repeat (first | exact Drawn0.refl _ | apply Drawn0.step)⟩
      ·rw [if_neg c6] at H
       exact absurd H (by simp)
     ·rw [if_neg c5] at H
      exact absurd H (by simp)
    ·rw [if_neg c4] at H
     have c4b0 : decide (x5_1 < (l0.length : Int)) = false := decide_eq_false c4
     clear c4
     obtain rfl := Option.some.inj H
     go_wp2
     repeat (go_quiet (fail); try go_wp2)
     go_ret
     exact ⟨by first | rfl | (simp; done) | (simp [*]; done), by repeat (first | exact Drawn0.refl _ | apply Drawn0.step)⟩
 ·rw [if_neg c3] at H
  have c3b0 : ((l0.length : Int) == (l1.length : Int)) = false := beq_eq_false_iff_ne.mpr c3
  have c3b1 : ((l0.length : Int) != (l1.length : Int)) = true := bne_iff_ne.mpr c3
  have c3b2 : (l0.length == l1.length) = false := by first | simpa using c3 | (simp at c3 ⊢; omega)
  obtain rfl := Option.some.inj H
  go_enter Tryz.func13, Tryz.ntmps13
  go_wp2
  repeat (go_quiet (fail); try go_wp2)
  go_ret
  exact ⟨by first | rfl | (simp; done) | (simp [*]; done), by repeat (first | exact Drawn0.refl _ | apply Drawn0.step)⟩

end Go.Proofs.YtfbockgjhbfidaaGreatDoor.Pr
