/- Texts of this session, cut down to what one claim needs and joined: PrSoundingsref07Parse. -/
import Derived.Test.YtjleceekccehoaaGreatDoorVGJ0
import Derived.Test.YtjleceekccehoaaGreatDoorVGJ24
import Derived.Test.YtjleceekccehoaaGreatDoorVPrSoundingsref07Part
-- Written by a program of this session (wip/hook.py) out of the translation. Not trusted: Lean checks it.
namespace Go.Proofs.YtjleceekccehoaaGreatDoor.Pr
open Go.RowKit Go.Proofs.YtjleceekccehoaaGreatDoorW.PrintWords Go.Proofs.YtjleceekccehoaaGreatDoorW.PrintLast Go.Proofs.YtjleceekccehoaaGreatDoorW.PrintMore
attribute [local go_sem] max2_int min2_int max_two min_two max_three min_three max_four min_four   -- for this text's walks alone
set_option linter.unusedVariables false
set_option linter.unusedSimpArgs false

/-! ### soundingsref07_Parse: function 54 -/
mutual
def soundingsref07_Parse.j0 : Nat → ByteArray → Bool → Option (Int × Bool)
 | 0, _, _ => none
 | k + 1, x0, x19 => if x19 = true then (some (0, false)) else (soundingsref07_Parse.l0 k x0 0 (-1) 0)
def soundingsref07_Parse.l0 : Nat → ByteArray → Int → Int → Int → Option (Int × Bool)
 | 0, _, _, _, _ => none
 | k + 1, x0, x4, x5, x6 => if x6 < (x0.size : Int) then ((soundingsref07_part.f k x0 x6).bind fun bt328 => (if bt328.2.2.2 = true then (soundingsref07_Parse.j2 k x0 x4 bt328.1 bt328.2.1 bt328.2.2.1 (decide (bt328.2.1 ≤ x5))) else (soundingsref07_Parse.j2 k x0 x4 bt328.1 bt328.2.1 bt328.2.2.1 true))) else (some (x4, true))
def soundingsref07_Parse.j2 : Nat → ByteArray → Int → Int → Int → Int → Bool → Option (Int × Bool)
 | 0, _, _, _, _, _, _ => none
 | k + 1, x0, x4, x7, x8, x9, x38 => if x38 = true then (some (0, false)) else (soundingsref07_Parse.l1 k x0 x4 x7 x8 x9 0)
def soundingsref07_Parse.l1 : Nat → ByteArray → Int → Int → Int → Int → Int → Option (Int × Bool)
 | 0, _, _, _, _, _, _ => none
 | k + 1, x0, x4, x7, x8, x9, x11 => if x11 < 1 then (soundingsref07_Parse.j4 k x0 x4 x7 x8 x9 x11 (decide (x7 > 0))) else (soundingsref07_Parse.j4 k x0 x4 x7 x8 x9 x11 false)
def soundingsref07_Parse.j4 : Nat → ByteArray → Int → Int → Int → Int → Int → Bool → Option (Int × Bool)
 | 0, _, _, _, _, _, _, _ => none
 | k + 1, x0, x4, x7, x8, x9, x11, x44 => if x44 = true then ((soundingsref07_Long.f).bind fun t332 => (if 0 ≤ x8 then (if x8 < (t332.length : Int) then (if (rd t332 x8) = 0 then (none) else (if x7 > (wrap64 (Int.tdiv (35184372088832 : Int) (rd t332 x8))) then (some (0, false)) else ((soundingsref07_Long.f).bind fun t336 => (if x8 < (t336.length : Int) then (soundingsref07_Parse.l1 k x0 (wrap64 (x4 + (wrap64 (x7 * (rd t336 x8))))) x7 x8 x9 (wrap64 (x11 + 1))) else (none))))) else (none)) else (none))) else (if x4 > 35184372088832 then (some (0, false)) else (soundingsref07_Parse.l0 k x0 x4 x8 x9))
end
def soundingsref07_Parse.f (k : Nat) (a0 : ByteArray) : Option (Int × Bool) := if (a0.size : Int) = 0 then (soundingsref07_Parse.j0 k a0 true) else (soundingsref07_Parse.j0 k a0 (decide ((a0.size : Int) > 200)))
theorem soundingsref07_Parse.mono_l : ∀ k, (∀ y0 y1, LeO (soundingsref07_Parse.j0 k y0 y1) (soundingsref07_Parse.j0 (k + 1) y0 y1)) ∧ (∀ y0 y1 y2 y3, LeO (soundingsref07_Parse.l0 k y0 y1 y2 y3) (soundingsref07_Parse.l0 (k + 1) y0 y1 y2 y3)) ∧ (∀ y0 y1 y2 y3 y4 y5, LeO (soundingsref07_Parse.j2 k y0 y1 y2 y3 y4 y5) (soundingsref07_Parse.j2 (k + 1) y0 y1 y2 y3 y4 y5)) ∧ (∀ y0 y1 y2 y3 y4 y5, LeO (soundingsref07_Parse.l1 k y0 y1 y2 y3 y4 y5) (soundingsref07_Parse.l1 (k + 1) y0 y1 y2 y3 y4 y5)) ∧ (∀ y0 y1 y2 y3 y4 y5 y6, LeO (soundingsref07_Parse.j4 k y0 y1 y2 y3 y4 y5 y6) (soundingsref07_Parse.j4 (k + 1) y0 y1 y2 y3 y4 y5 y6))
 | 0 => ⟨fun _ _ r h => by simp [soundingsref07_Parse.j0] at h, fun _ _ _ _ r h => by simp [soundingsref07_Parse.l0] at h, fun _ _ _ _ _ _ r h => by simp [soundingsref07_Parse.j2] at h, fun _ _ _ _ _ _ r h => by simp [soundingsref07_Parse.l1] at h, fun _ _ _ _ _ _ _ r h => by simp [soundingsref07_Parse.j4] at h⟩
 | k + 1 => by
  obtain ⟨ih0, ih1, ih2, ih3, ih4⟩ := soundingsref07_Parse.mono_l k
  refine ⟨?_, ?_, ?_, ?_, ?_⟩
  ·intro y0 y1
   unfold soundingsref07_Parse.j0
   repeat' first
   | (with_reducible exact ih0 _ _)
   | (with_reducible exact ih1 _ _ _ _)
   | (with_reducible exact ih2 _ _ _ _ _ _)
   | (with_reducible exact ih3 _ _ _ _ _ _)
   | (with_reducible exact ih4 _ _ _ _ _ _ _)
   | (with_reducible exact soundingsref07_part.mono _ _ _)
   | (with_reducible exact LeO.refl _)
   | (with_reducible exact LeO.none _)
   | (with_reducible refine LeO.ite ?_ ?_)
   | (with_reducible refine LeO.bind ?_ (fun _ => ?_))
   | exact ih0 _ _
   | exact ih1 _ _ _ _
   | exact ih2 _ _ _ _ _ _
   | exact ih3 _ _ _ _ _ _
   | exact ih4 _ _ _ _ _ _ _
   | exact soundingsref07_part.mono _ _ _
   | exact LeO.none _
   | refine LeO.ite ?_ ?_
   | refine LeO.bind ?_ (fun _ => ?_)
  ·intro y0 y1 y2 y3
   unfold soundingsref07_Parse.l0
   repeat' first
   | (with_reducible exact ih0 _ _)
   | (with_reducible exact ih1 _ _ _ _)
   | (with_reducible exact ih2 _ _ _ _ _ _)
   | (with_reducible exact ih3 _ _ _ _ _ _)
   | (with_reducible exact ih4 _ _ _ _ _ _ _)
   | (with_reducible exact soundingsref07_part.mono _ _ _)
   | (with_reducible exact LeO.refl _)
   | (with_reducible exact LeO.none _)
   | (with_reducible refine LeO.ite ?_ ?_)
   | (with_reducible refine LeO.bind ?_ (fun _ => ?_))
   | exact ih0 _ _
   | exact ih1 _ _ _ _
   | exact ih2 _ _ _ _ _ _
   | exact ih3 _ _ _ _ _ _
   | exact ih4 _ _ _ _ _ _ _
   | exact soundingsref07_part.mono _ _ _
   | exact LeO.none _
   | refine LeO.ite ?_ ?_
   | refine LeO.bind ?_ (fun _ => ?_)
  ·intro y0 y1 y2 y3 y4 y5
   unfold soundingsref07_Parse.j2
   repeat' first
   | (with_reducible exact ih0 _ _)
   | (with_reducible exact ih1 _ _ _ _)
   | (with_reducible exact ih2 _ _ _ _ _ _)
   | (with_reducible exact ih3 _ _ _ _ _ _)
   | (with_reducible exact ih4 _ _ _ _ _ _ _)
   | (with_reducible exact soundingsref07_part.mono _ _ _)
   | (with_reducible exact LeO.refl _)
   | (with_reducible exact LeO.none _)
   | (with_reducible refine LeO.ite ?_ ?_)
   | (with_reducible refine LeO.bind ?_ (fun _ => ?_))
   | exact ih0 _ _
   | exact ih1 _ _ _ _
   | exact ih2 _ _ _ _ _ _
   | exact ih3 _ _ _ _ _ _
   | exact ih4 _ _ _ _ _ _ _
   | exact soundingsref07_part.mono _ _ _
   | exact LeO.none _
   | refine LeO.ite ?_ ?_
   | refine LeO.bind ?_ (fun _ => ?_)
  ·intro y0 y1 y2 y3 y4 y5
   unfold soundingsref07_Parse.l1
   repeat' first
   | (with_reducible exact ih0 _ _)
   | (with_reducible exact ih1 _ _ _ _)
   | (with_reducible exact ih2 _ _ _ _ _ _)
   | (with_reducible exact ih3 _ _ _ _ _ _)
   | (with_reducible exact ih4 _ _ _ _ _ _ _)
   | (with_reducible exact soundingsref07_part.mono _ _ _)
   | (with_reducible exact LeO.refl _)
   | (with_reducible exact LeO.none _)
   | (with_reducible refine LeO.ite ?_ ?_)
   | (with_reducible refine LeO.bind ?_ (fun _ => ?_))
   | exact ih0 _ _
   | exact ih1 _ _ _ _
   | exact ih2 _ _ _ _ _ _
   | exact ih3 _ _ _ _ _ _
   | exact ih4 _ _ _ _ _ _ _
   | exact soundingsref07_part.mono _ _ _
   | exact LeO.none _
   | refine LeO.ite ?_ ?_
   | refine LeO.bind ?_ (fun _ => ?_)
  ·intro y0 y1 y2 y3 y4 y5 y6
   unfold soundingsref07_Parse.j4
   repeat' first
   | (with_reducible exact ih0 _ _)
   | (with_reducible exact ih1 _ _ _ _)
   | (with_reducible exact ih2 _ _ _ _ _ _)
   | (with_reducible exact ih3 _ _ _ _ _ _)
   | (with_reducible exact ih4 _ _ _ _ _ _ _)
   | (with_reducible exact soundingsref07_part.mono _ _ _)
   | (with_reducible exact LeO.refl _)
   | (with_reducible exact LeO.none _)
   | (with_reducible refine LeO.ite ?_ ?_)
   | (with_reducible refine LeO.bind ?_ (fun _ => ?_))
   | exact ih0 _ _
   | exact ih1 _ _ _ _
   | exact ih2 _ _ _ _ _ _
   | exact ih3 _ _ _ _ _ _
   | exact ih4 _ _ _ _ _ _ _
   | exact soundingsref07_part.mono _ _ _
   | exact LeO.none _
   | refine LeO.ite ?_ ?_
   | refine LeO.bind ?_ (fun _ => ?_)
theorem soundingsref07_Parse.mono : ∀ a0 k, LeO (soundingsref07_Parse.f k a0) (soundingsref07_Parse.f (k + 1) a0) := by
 intro a0 k
 obtain ⟨ih0, ih1, ih2, ih3, ih4⟩ := soundingsref07_Parse.mono_l k
 unfold soundingsref07_Parse.f
 repeat' first
   | (with_reducible exact ih0 _ _)
   | (with_reducible exact ih1 _ _ _ _)
   | (with_reducible exact ih2 _ _ _ _ _ _)
   | (with_reducible exact ih3 _ _ _ _ _ _)
   | (with_reducible exact ih4 _ _ _ _ _ _ _)
   | (with_reducible exact soundingsref07_part.mono _ _ _)
   | (with_reducible exact LeO.refl _)
   | (with_reducible exact LeO.none _)
   | (with_reducible refine LeO.ite ?_ ?_)
   | (with_reducible refine LeO.bind ?_ (fun _ => ?_))
   | exact ih0 _ _
   | exact ih1 _ _ _ _
   | exact ih2 _ _ _ _ _ _
   | exact ih3 _ _ _ _ _ _
   | exact ih4 _ _ _ _ _ _ _
   | exact soundingsref07_part.mono _ _ _
   | exact LeO.none _
   | refine LeO.ite ?_ ?_
   | refine LeO.bind ?_ (fun _ => ?_)
set_option maxHeartbeats 8000000 in
set_option maxRecDepth 100000 in
theorem soundingsref07_Parse.calls (k : Nat) (a0 : ByteArray) (r1 : Int) (r2 : Bool) (w : World) (h : soundingsref07_Parse.f k a0 = some (r1, r2)) :
  Calls Tryz.prog 54 #[.string a0] w fun e w' => e = .returned (.tuple #[.int .i64 r1, .bool r2]) ∧ Below w.heap.size w w' := by
 have HB := Aside0.mk (Below.refl w.heap.size w)
 have H : (if (a0.size : Int) = 0 then (soundingsref07_Parse.j0 k a0 true) else (soundingsref07_Parse.j0 k a0 (decide ((a0.size : Int) > 200)))) = some (r1, r2) := h
 clear h
 have HC2 := Aside0.mk H
 clear H
 go_enter Tryz.func54, Tryz.ntmps54
 go_upto_region 1 with (fail)
 go_cut [19] (fun v19 wc => ∃ (kq : Nat) (x19_1 : Bool), v19 = .bool x19_1 ∧ Aside0 (soundingsref07_Parse.j0 kq a0 x19_1 = some (r1, r2)) ∧ Aside0 (kq ≤ k) ∧ Aside0 (Below w.heap.size w wc))
 case first =>
  have H := HC2.out
  clear HC2
  by_cases c3 : (a0.size : Int) = 0
  ·rw [if_pos c3] at H
   have c3b0 : ((a0.size : Int) == 0) = true := beq_iff_eq.mpr c3
   have c3b1 : ((a0.size : Int) != 0) = false := bne_eq_false_iff_eq.mpr c3
   clear c3
   (first | rw [c3b0] | (simp only [i64_w, i32_w]; rw [c3b0]) | skip)
   have H' := Aside0.mk H
   clear H
   go_wp2
   go_meet
   case rel => exact ⟨_, (true), (by first | rfl | (simp; done) | (simp [*]; done)), H', ⟨by first | omega | exact Nat.le_refl _⟩, ⟨by repeat (first | (with_reducible first | exact HB.out | apply below_alloc | apply pw_below_drewN | apply below_drew1) | exact HB.out)⟩⟩
  ·rw [if_neg c3] at H
   have c3b0 : ((a0.size : Int) == 0) = false := beq_eq_false_iff_ne.mpr c3
   have c3b1 : ((a0.size : Int) != 0) = true := bne_iff_ne.mpr c3
   (first | rw [c3b0] | (simp only [i64_w, i32_w]; rw [c3b0]) | skip)
   have H' := Aside0.mk H
   clear H
   go_wp2
   go_meet
   case rel => exact ⟨_, (decide ((a0.size : Int) > 200)), (by first | rfl | (simp; done) | (simp [*]; done)), H', ⟨by first | omega | exact Nat.le_refl _⟩, ⟨by repeat (first | (with_reducible first | exact HB.out | apply below_alloc | apply pw_below_drewN | apply below_drew1) | exact HB.out)⟩⟩
 case rest =>
  clear HC2
  try clear p2
  try clear c3
  try clear c3b0
  try clear c3b1
  obtain ⟨kq, x19_1, rfl, HA, HJ1, HB⟩ := hcut
  cases kq with
  | zero => exact absurd HA.out (by simp [soundingsref07_Parse.j0])
  | succ kj1 =>
   have H := HA.out
   clear HA
   simp only [soundingsref07_Parse.j0] at H
   by_cases c4 : x19_1 = true
   ·subst c4
    have H1 : (some (0, false)) = some (r1, r2) := by rw [if_pos rfl] at H; exact H
    clear H
    have H := H1
    clear H1
    simp only [Option.some.injEq, Prod.mk.injEq] at H
    obtain ⟨rfl, rfl⟩ := H
    go_wp2
    go_ret2
    exact ⟨by first | rfl | (simp [errW_none, errW_some] <;> rfl) | (simp [*, errW_none, errW_some] <;> rfl), by repeat (first | (with_reducible first | exact HB.out | apply below_alloc | apply pw_below_drewN | apply below_drew1) | exact HB.out)⟩
   ·replace c4 := Bool.eq_false_iff.mpr c4
    subst c4
    have H1 : (soundingsref07_Parse.l0 kj1 a0 0 (-1) 0) = some (r1, r2) := by rw [if_neg (show ¬ (false = true) by decide)] at H; exact H
    clear H
    have H := H1
    clear H1
    have H' := Aside0.mk H
    clear H
    go_wp2
    go_loopg [4, 5, 6] kj1 (fun kq v4 v5 v6 w' => ∃ (x4_2 : Int) (x5_2 : Int) (x6_2 : Int), v4 = .int .i64 x4_2 ∧ v5 = .int .i64 x5_2 ∧ v6 = .int .i64 x6_2 ∧ Aside0 (soundingsref07_Parse.l0 kq a0 x4_2 x5_2 x6_2 = some (r1, r2)) ∧ Aside0 (kq ≤ kj1) ∧ Aside0 (Below w.heap.size w w'))
    case atStart => exact ⟨(0), ((-1)), (0), (by first | rfl | (simp; done) | (simp [*]; done)), (by first | rfl | (simp; done) | (simp [*]; done)), (by first | rfl | (simp; done) | (simp [*]; done)), H', ⟨Nat.le_refl _⟩, ⟨by repeat (first | (with_reducible first | exact HB.out | apply below_alloc | apply pw_below_drewN | apply below_drew1) | exact HB.out)⟩⟩
    case round =>
     clear H'
     try clear p2
     try clear c3
     try clear c3b0
     try clear c3b1
     try clear c4
     try clear p2
     obtain ⟨x4_2, x5_2, x6_2, rfl, rfl, rfl, HA, HK2, HB⟩ := hrel
     cases gk with
     | zero => exact absurd HA.out (by simp [soundingsref07_Parse.l0])
     | succ k2 =>
      have H := HA.out
      clear HA
      simp only [soundingsref07_Parse.l0] at H
      by_cases c5 : x6_2 < (a0.size : Int)
      ·rw [if_pos c5] at H
       have c5b0 : decide (x6_2 < (a0.size : Int)) = true := decide_eq_true c5
       clear c5
       replace H := Option.bind_eq_some_iff.mp H
       obtain ⟨⟨t328, t329, t330, t331⟩, A60, H⟩ := H
       replace H : (if t331 = true then (soundingsref07_Parse.j2 k2 a0 x4_2 t328 t329 t330 (decide (t329 ≤ x5_2))) else (soundingsref07_Parse.j2 k2 a0 x4_2 t328 t329 t330 true)) = some (r1, r2) := H
       have A6 := Aside0.mk A60
       clear A60
       have HC7 := Aside0.mk H
       clear H
       go_upto_region 8 with (first | ((with_reducible refine gate_callee (f := 79) rfl ?_); refine goesL_ (some 27) rfl rfl Tryz.func79 (by kernel_rfl) rfl #[.string a0, .int .i64 x6_2] rfl (by (try simp only [List.map_toArray, List.map_cons, List.map_nil]); first | done | rfl | (simp only [List.length_drop, List.length_take]; rfl)) ?_; (with_reducible refine (soundingsref07_part.calls k2 a0 x6_2 t328 t329 t330 t331 _ A6.out).mono ?_); rintro e w8 ⟨rfl, hb⟩; refine ⟨_, rfl, ?_⟩; have n0_ := Aside0.mk (below_step (by repeat (first | (with_reducible first | exact HB.out | apply below_alloc | apply pw_below_drewN | apply below_drew1) | exact HB.out)) hb); clear HB; have HB := n0_; clear n0_; (try clear hb); (try clear hb2); (try clear hk); (try clear hi)))
       (try simp only [Act.put, List.setIfInBounds_toArray, List.set_cons_zero, List.set_cons_succ])
       go_cut [38] (fun v38 wc => ∃ (kq : Nat) (x38_6 : Bool), v38 = .bool x38_6 ∧ Aside0 (soundingsref07_Parse.j2 kq a0 x4_2 t328 t329 t330 x38_6 = some (r1, r2)) ∧ Aside0 (kq ≤ k2) ∧ Aside0 (Below w.heap.size w wc))
       case first =>
        have H := HC7.out
        clear HC7
        by_cases c9 : t331 = true
        ·subst c9
         have H1 : (soundingsref07_Parse.j2 k2 a0 x4_2 t328 t329 t330 (decide (t329 ≤ x5_2))) = some (r1, r2) := by rw [if_pos rfl] at H; exact H
         clear H
         have H := H1
         clear H1
         have H' := Aside0.mk H
         clear H
         go_wp2
         go_meet
         case rel => exact ⟨_, (decide (t329 ≤ x5_2)), (by first | rfl | (simp; done) | (simp [*]; done)), H', ⟨by have := HJ1.out; have := HK2.out; first | omega | exact Nat.le_refl _⟩, ⟨by repeat (first | (with_reducible first | exact HB.out | apply below_alloc | apply pw_below_drewN | apply below_drew1) | exact HB.out)⟩⟩
        ·replace c9 := Bool.eq_false_iff.mpr c9
         subst c9
         have H1 : (soundingsref07_Parse.j2 k2 a0 x4_2 t328 t329 t330 true) = some (r1, r2) := by rw [if_neg (show ¬ (false = true) by decide)] at H; exact H
         clear H
         have H := H1
         clear H1
         have H' := Aside0.mk H
         clear H
         go_wp2
         go_meet
         case rel => exact ⟨_, (true), (by first | rfl | (simp; done) | (simp [*]; done)), H', ⟨by have := HJ1.out; have := HK2.out; first | omega | exact Nat.le_refl _⟩, ⟨by repeat (first | (with_reducible first | exact HB.out | apply below_alloc | apply pw_below_drewN | apply below_drew1) | exact HB.out)⟩⟩
       case rest =>
        clear HC7
        try clear p2
        try clear c3
        try clear c3b0
        try clear c3b1
        try clear c4
        try clear c5
        try clear c5b0
        try clear c7
        try clear c9
        try clear p2
        obtain ⟨kq, x38_6, rfl, HA, HJ6, HB⟩ := hcut
        cases kq with
        | zero => exact absurd HA.out (by simp [soundingsref07_Parse.j2])
        | succ kj6 =>
         have H := HA.out
         clear HA
         simp only [soundingsref07_Parse.j2] at H
         by_cases c10 : x38_6 = true
         ·subst c10
          have H1 : (some (0, false)) = some (r1, r2) := by rw [if_pos rfl] at H; exact H
          clear H
          have H := H1
          clear H1
          simp only [Option.some.injEq, Prod.mk.injEq] at H
          obtain ⟨rfl, rfl⟩ := H
          go_wp2
          go_ret2
          exact ⟨by first | rfl | (simp [errW_none, errW_some] <;> rfl) | (simp [*, errW_none, errW_some] <;> rfl), by repeat (first | (with_reducible first | exact HB.out | apply below_alloc | apply pw_below_drewN | apply below_drew1) | exact HB.out)⟩
         ·replace c10 := Bool.eq_false_iff.mpr c10
          subst c10
          have H1 : (soundingsref07_Parse.l1 kj6 a0 x4_2 t328 t329 t330 0) = some (r1, r2) := by rw [if_neg (show ¬ (false = true) by decide)] at H; exact H
          clear H
          have H := H1
          clear H1
          have H' := Aside0.mk H
          clear H
          go_wp2
          go_loopg [4, 11] kj6 (fun kq v4 v11 w' => ∃ (x4_4 : Int) (x11_4 : Int), v4 = .int .i64 x4_4 ∧ v11 = .int .i64 x11_4 ∧ Aside0 (soundingsref07_Parse.l1 kq a0 x4_4 t328 t329 t330 x11_4 = some (r1, r2)) ∧ Aside0 (kq ≤ kj6) ∧ Aside0 (Below w.heap.size w w'))
          case atStart => exact ⟨(x4_2), (0), (by first | rfl | (simp; done) | (simp [*]; done)), (by first | rfl | (simp; done) | (simp [*]; done)), H', ⟨Nat.le_refl _⟩, ⟨by repeat (first | (with_reducible first | exact HB.out | apply below_alloc | apply pw_below_drewN | apply below_drew1) | exact HB.out)⟩⟩
          case round =>
           clear H'
           try clear c1
           try clear p2
           try clear c3
           try clear c3b0
           try clear c3b1
           try clear c4
           try clear c5
           try clear c5b0
           try clear c7
           try clear c9
           try clear c10
           try clear p2
           obtain ⟨x4_4, x11_4, rfl, rfl, HA, HK4, HB⟩ := hrel
           cases gk with
           | zero => exact absurd HA.out (by simp [soundingsref07_Parse.l1])
           | succ k4 =>
            have H := HA.out
            clear HA
            simp only [soundingsref07_Parse.l1] at H
            have HC11 := Aside0.mk H
            clear H
            go_upto_region 11 with (fail)
            go_cut [44] (fun v44 wc => ∃ (kq : Nat) (x44_10 : Bool), v44 = .bool x44_10 ∧ Aside0 (soundingsref07_Parse.j4 kq a0 x4_4 t328 t329 t330 x11_4 x44_10 = some (r1, r2)) ∧ Aside0 (kq ≤ k4) ∧ Aside0 (Below w.heap.size w wc))
            case first =>
             have H := HC11.out
             clear HC11
             by_cases c12 : x11_4 < 1
             ·rw [if_pos c12] at H
              have c12b0 : decide (x11_4 < 1) = true := decide_eq_true c12
              clear c12
              (first | rw [c12b0] | (simp only [i64_w, i32_w]; rw [c12b0]) | skip)
              have H' := Aside0.mk H
              clear H
              go_wp2
              go_meet
              case rel => exact ⟨_, (decide (t328 > 0)), (by first | rfl | (simp; done) | (simp [*]; done)), H', ⟨by have := HJ1.out; have := HK2.out; have := HJ6.out; have := HK4.out; first | omega | exact Nat.le_refl _⟩, ⟨by repeat (first | (with_reducible first | exact HB.out | apply below_alloc | apply pw_below_drewN | apply below_drew1) | exact HB.out)⟩⟩
             ·rw [if_neg c12] at H
              have c12b0 : decide (x11_4 < 1) = false := decide_eq_false c12
              clear c12
              (first | rw [c12b0] | (simp only [i64_w, i32_w]; rw [c12b0]) | skip)
              have H' := Aside0.mk H
              clear H
              go_wp2
              go_meet
              case rel => exact ⟨_, (false), (by first | rfl | (simp; done) | (simp [*]; done)), H', ⟨by have := HJ1.out; have := HK2.out; have := HJ6.out; have := HK4.out; first | omega | exact Nat.le_refl _⟩, ⟨by repeat (first | (with_reducible first | exact HB.out | apply below_alloc | apply pw_below_drewN | apply below_drew1) | exact HB.out)⟩⟩
            case rest =>
             clear HC11
             try clear c1
             try clear p2
             try clear c3
             try clear c3b0
             try clear c3b1
             try clear c4
             try clear c5
             try clear c5b0
             try clear c7
             try clear c9
             try clear c10
             try clear c12
             try clear c12b0
             try clear p2
             obtain ⟨kq, x44_10, rfl, HA, HJ10, HB⟩ := hcut
             cases kq with
             | zero => exact absurd HA.out (by simp [soundingsref07_Parse.j4])
             | succ kj10 =>
              have H := HA.out
              clear HA
              simp only [soundingsref07_Parse.j4] at H
              by_cases c13 : x44_10 = true
              ·subst c13
               have H1 : ((soundingsref07_Long.f).bind fun t332 => (if 0 ≤ t329 then (if t329 < (t332.length : Int) then (if (rd t332 t329) = 0 then (none) else (if t328 > (wrap64 (Int.tdiv (35184372088832 : Int) (rd t332 t329))) then (some (0, false)) else ((soundingsref07_Long.f).bind fun t336 => (if t329 < (t336.length : Int) then (soundingsref07_Parse.l1 kj10 a0 (wrap64 (x4_4 + (wrap64 (t328 * (rd t336 t329))))) t328 t329 t330 (wrap64 (x11_4 + 1))) else (none))))) else (none)) else (none))) = some (r1, r2) := by rw [if_pos rfl] at H; exact H
               clear H
               have H := H1
               clear H1
               replace H := Option.bind_eq_some_iff.mp H
               obtain ⟨t332, A140, H⟩ := H
               replace H : (if 0 ≤ t329 then (if t329 < (t332.length : Int) then (if (rd t332 t329) = 0 then (none) else (if t328 > (wrap64 (Int.tdiv (35184372088832 : Int) (rd t332 t329))) then (some (0, false)) else ((soundingsref07_Long.f).bind fun t336 => (if t329 < (t336.length : Int) then (soundingsref07_Parse.l1 kj10 a0 (wrap64 (x4_4 + (wrap64 (t328 * (rd t336 t329))))) t328 t329 t330 (wrap64 (x11_4 + 1))) else (none))))) else (none)) else (none)) = some (r1, r2) := H
               have A14 := Aside0.mk A140
               clear A140
               by_cases c15 : 0 ≤ t329
               ·rw [if_pos c15] at H
                have c15b0 : decide (0 ≤ t329) = true := decide_eq_true c15
                clear c15
                by_cases c16 : t329 < (t332.length : Int)
                ·rw [if_pos c16] at H
                 have c16b0 : decide (t329 < (t332.length : Int)) = true := decide_eq_true c16
                 clear c16
                 by_cases c17 : (rd t332 t329) = 0
                 ·rw [if_pos c17] at H
                  exact absurd H (by simp)
                 ·rw [if_neg c17] at H
                  have c17b0 : ((rd t332 t329) == 0) = false := beq_eq_false_iff_ne.mpr c17
                  have c17b1 : ((rd t332 t329) != 0) = true := bne_iff_ne.mpr c17
                  by_cases c18 : t328 > (wrap64 (Int.tdiv (35184372088832 : Int) (rd t332 t329)))
                  ·rw [if_pos c18] at H
                   have c18b0 : decide ((wrap64 (Int.tdiv (35184372088832 : Int) (rd t332 t329))) < t328) = true := decide_eq_true c18
                   clear c18
                   simp only [Option.some.injEq, Prod.mk.injEq] at H
                   obtain ⟨rfl, rfl⟩ := H
                   go_wp2_with (first | ((with_reducible refine gate_callee (f := 80) rfl ?_); refine goesL_ (some 48) rfl rfl Tryz.func80 (by kernel_rfl) rfl #[] rfl (by (try simp only [List.map_toArray, List.map_cons, List.map_nil]); first | done | rfl | (simp only [List.length_drop, List.length_take]; rfl)) ?_; (with_reducible refine (soundingsref07_Long.calls  t332 _ A14.out).mono ?_); rintro e w19 ⟨v333, rfl, ho0, hb⟩; refine ⟨_, rfl, ?_⟩; have n0_ := Aside0.mk (Kd.R_lower ho0 (below_size (by repeat (first | (with_reducible first | exact HB.out | apply below_alloc | apply pw_below_drewN | apply below_drew1) | exact HB.out)))); have n1_ := Aside0.mk (below_step (by repeat (first | (with_reducible first | exact HB.out | apply below_alloc | apply pw_below_drewN | apply below_drew1) | exact HB.out)) hb); clear HB; have HO334 := n0_; have HB := n1_; clear n0_ n1_; (try clear hb); (try clear hb2); (try clear hk); (try clear hi); (try clear ho0); obtain ⟨Ao20, co20, eo20⟩ := Kd.R_slice HO334.out; subst eo20; have p335 : 0 ≤ (t329 : Int) := of_decide_eq_true (by first | (with_reducible assumption) | assumption); have q335 : t329 < (t332.length : Int) := of_decide_eq_true (by first | (with_reducible assumption) | assumption); obtain ⟨ad335, e335, hx335_0⟩ := Kd.at_int (Kd.R_reads' HO334.out).2.2 t329 p335 q335; cases e335; replace p335 := eq_true p335; replace q335 := eq_true q335))
                   go_ret2
                   exact ⟨by first | rfl | (simp [errW_none, errW_some] <;> rfl) | (simp [*, errW_none, errW_some] <;> rfl), by repeat (first | (with_reducible first | exact HB.out | apply below_alloc | apply pw_below_drewN | apply below_drew1) | exact HB.out)⟩
                  ·rw [if_neg c18] at H
                   have c18b0 : decide ((wrap64 (Int.tdiv (35184372088832 : Int) (rd t332 t329))) < t328) = false := decide_eq_false c18
                   clear c18
                   replace H := Option.bind_eq_some_iff.mp H
                   obtain ⟨t336, A210, H⟩ := H
                   replace H : (if t329 < (t336.length : Int) then (soundingsref07_Parse.l1 kj10 a0 (wrap64 (x4_4 + (wrap64 (t328 * (rd t336 t329))))) t328 t329 t330 (wrap64 (x11_4 + 1))) else (none)) = some (r1, r2) := H
                   have A21 := Aside0.mk A210
                   clear A210
                   by_cases c22 : t329 < (t336.length : Int)
                   ·rw [if_pos c22] at H
                    have c22b0 : decide (t329 < (t336.length : Int)) = true := decide_eq_true c22
                    clear c22
                    have H' := Aside0.mk H
                    clear H
                    go_wp2_with (first | ((with_reducible refine gate_callee (f := 80) rfl ?_); refine goesL_ (some 48) rfl rfl Tryz.func80 (by kernel_rfl) rfl #[] rfl (by (try simp only [List.map_toArray, List.map_cons, List.map_nil]); first | done | rfl | (simp only [List.length_drop, List.length_take]; rfl)) ?_; (with_reducible refine (soundingsref07_Long.calls  t332 _ A14.out).mono ?_); rintro e w23 ⟨v333, rfl, ho0, hb⟩; refine ⟨_, rfl, ?_⟩; have n0_ := Aside0.mk (Kd.R_lower ho0 (below_size (by repeat (first | (with_reducible first | exact HB.out | apply below_alloc | apply pw_below_drewN | apply below_drew1) | exact HB.out)))); have n1_ := Aside0.mk (below_step (by repeat (first | (with_reducible first | exact HB.out | apply below_alloc | apply pw_below_drewN | apply below_drew1) | exact HB.out)) hb); clear HB; have HO334 := n0_; have HB := n1_; clear n0_ n1_; (try clear hb); (try clear hb2); (try clear hk); (try clear hi); (try clear ho0); obtain ⟨Ao24, co24, eo24⟩ := Kd.R_slice HO334.out; subst eo24; have p335 : 0 ≤ (t329 : Int) := of_decide_eq_true (by first | (with_reducible assumption) | assumption); have q335 : t329 < (t332.length : Int) := of_decide_eq_true (by first | (with_reducible assumption) | assumption); obtain ⟨ad335, e335, hx335_0⟩ := Kd.at_int (Kd.R_reads' HO334.out).2.2 t329 p335 q335; cases e335; replace p335 := eq_true p335; replace q335 := eq_true q335) | ((with_reducible refine gate_callee (f := 80) rfl ?_); refine goesL_ (some 56) rfl rfl Tryz.func80 (by kernel_rfl) rfl #[] rfl (by (try simp only [List.map_toArray, List.map_cons, List.map_nil]); first | done | rfl | (simp only [List.length_drop, List.length_take]; rfl)) ?_; (with_reducible refine (soundingsref07_Long.calls  t336 _ A21.out).mono ?_); rintro e w25 ⟨v337, rfl, ho0, hb⟩; refine ⟨_, rfl, ?_⟩; have n0_ := Aside0.mk (Kd.R_elder' (by (with_reducible repeat (first | apply Kd.R_alloc | apply Kd.R_drewN | apply Kd.R_drew)); exact HO334.out) (Kd.R_base ho0) hb); have n1_ := Aside0.mk (Kd.R_lower (Kd.R_new' ho0 (Kd.R_lt (by (with_reducible repeat (first | apply Kd.R_alloc | apply Kd.R_drewN | apply Kd.R_drew)); exact HO334.out))) (below_size (by repeat (first | (with_reducible first | exact HB.out | apply below_alloc | apply pw_below_drewN | apply below_drew1) | exact HB.out)))); have n2_ := Aside0.mk (below_step (by repeat (first | (with_reducible first | exact HB.out | apply below_alloc | apply pw_below_drewN | apply below_drew1) | exact HB.out)) hb); clear HO334; clear HB; have HO334 := n0_; have HO338 := n1_; have HB := n2_; clear n0_ n1_ n2_; (try clear hb); (try clear hb2); (try clear hk); (try clear hi); (try clear ho0); obtain ⟨Ao26, co26, eo26⟩ := Kd.R_slice HO338.out; subst eo26; have p339 : 0 ≤ (t329 : Int) := of_decide_eq_true (by first | (with_reducible assumption) | assumption); have q339 : t329 < (t336.length : Int) := of_decide_eq_true (by first | (with_reducible assumption) | assumption); obtain ⟨ad339, e339, hx339_0⟩ := Kd.at_int (Kd.R_reads' HO338.out).2.2 t329 p339 q339; cases e339; replace p339 := eq_true p339; replace q339 := eq_true q339))
                    go_roundg kj10
                    case measure => have := HJ1.out; have := HK2.out; have := HJ6.out; have := HK4.out; have := HJ10.out; omega
                    case rel => exact ⟨(wrap64 (x4_4 + (wrap64 (t328 * (rd t336 t329))))), (wrap64 (x11_4 + 1)), (by first | rfl | (simp; done) | (simp [*]; done)), (by first | rfl | (simp; done) | (simp [*]; done)), H', ⟨by have := HJ1.out; have := HK2.out; have := HJ6.out; have := HK4.out; have := HJ10.out; omega⟩, ⟨by repeat (first | (with_reducible first | exact HB.out | apply below_alloc | apply pw_below_drewN | apply below_drew1) | exact HB.out)⟩⟩
                   ·rw [if_neg c22] at H
                    exact absurd H (by simp)
                ·rw [if_neg c16] at H
                 exact absurd H (by simp)
               ·rw [if_neg c15] at H
                exact absurd H (by simp)
              ·replace c13 := Bool.eq_false_iff.mpr c13
               subst c13
               have H1 : (if x4_4 > 35184372088832 then (some (0, false)) else (soundingsref07_Parse.l0 kj10 a0 x4_4 t329 t330)) = some (r1, r2) := by rw [if_neg (show ¬ (false = true) by decide)] at H; exact H
               clear H
               have H := H1
               clear H1
               by_cases c27 : x4_4 > 35184372088832
               ·rw [if_pos c27] at H
                have c27b0 : decide (35184372088832 < x4_4) = true := decide_eq_true c27
                clear c27
                simp only [Option.some.injEq, Prod.mk.injEq] at H
                obtain ⟨rfl, rfl⟩ := H
                go_wp2
                go_ret2
                exact ⟨by first | rfl | (simp [errW_none, errW_some] <;> rfl) | (simp [*, errW_none, errW_some] <;> rfl), by repeat (first | (with_reducible first | exact HB.out | apply below_alloc | apply pw_below_drewN | apply below_drew1) | exact HB.out)⟩
               ·rw [if_neg c27] at H
                have c27b0 : decide (35184372088832 < x4_4) = false := decide_eq_false c27
                clear c27
                have H' := Aside0.mk H
                clear H
                go_wp2
                go_roundg kj10
                case measure => have := HJ1.out; have := HK2.out; have := HJ6.out; have := HK4.out; have := HJ10.out; omega
                case rel => exact ⟨(x4_4), (t329), (t330), (by first | rfl | (simp; done) | (simp [*]; done)), (by first | rfl | (simp; done) | (simp [*]; done)), (by first | rfl | (simp; done) | (simp [*]; done)), H', ⟨by have := HJ1.out; have := HK2.out; have := HJ6.out; have := HK4.out; have := HJ10.out; omega⟩, ⟨by repeat (first | (with_reducible first | exact HB.out | apply below_alloc | apply pw_below_drewN | apply below_drew1) | exact HB.out)⟩⟩
      ·rw [if_neg c5] at H
       have c5b0 : decide (x6_2 < (a0.size : Int)) = false := decide_eq_false c5
       clear c5
       simp only [Option.some.injEq, Prod.mk.injEq] at H
       obtain ⟨rfl, rfl⟩ := H
       go_wp2
       go_ret2
       exact ⟨by first | rfl | (simp [errW_none, errW_some] <;> rfl) | (simp [*, errW_none, errW_some] <;> rfl), by repeat (first | (with_reducible first | exact HB.out | apply below_alloc | apply pw_below_drewN | apply below_drew1) | exact HB.out)⟩

end Go.Proofs.YtjleceekccehoaaGreatDoor.Pr
