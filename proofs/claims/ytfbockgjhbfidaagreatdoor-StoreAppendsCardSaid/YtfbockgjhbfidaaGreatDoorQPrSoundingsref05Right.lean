/- Texts of this session, cut down to what one claim needs and joined: PrSoundingsref05Right. -/
import Derived.Test.YtfbockgjhbfidaaGreatDoorQPr0
import Derived.Test.YtfbockgjhbfidaaGreatDoorQLbURRight
import Derived.Test.YtfbockgjhbfidaaGreatDoorQGPr
import Derived.Test.YtfbockgjhbfidaaGreatDoorQPrSoundingsref04Norm
-- Written by a program of this session (wip/hook.py) out of the translation. Not trusted: Lean checks it.
namespace Go.Proofs.YtfbockgjhbfidaaGreatDoor.Pr
open Go.RowKit Go.Proofs.YtfbockgjhbfidaaGreatDoorW.PrintWords Go.Proofs.YtfbockgjhbfidaaGreatDoorW.PrintLast Go.Proofs.YtfbockgjhbfidaaGreatDoorW.PrintMore
attribute [local go_sem] max2_int min2_int max_two min_two max_three min_three max_four min_four   -- for this text's walks alone
set_option linter.unusedVariables false
set_option linter.unusedSimpArgs false

/-! ### soundingsref05_Right: function 15 -/
mutual
def soundingsref05_Right.l0 : Nat → List (S47) → Int → Option (Bool)
 | 0, _, _ => none
 | k + 1, x0, x3 => if x3 < (x0.length : Int) then (if 0 ≤ x3 then ((soundingsref01_Right.f ((rd_T47 x0 x3).f0)).bind fun t192 => (if t192 = true then (if (((rd_T47 x0 x3).f0).length : Int) = 0 then (soundingsref05_Right.j1 k x0 x3 ((rd_T47 x0 x3).f1) true) else (soundingsref05_Right.j1 k x0 x3 ((rd_T47 x0 x3).f1) ((((rd_T47 x0 x3).f1).length : Int) == 0))) else (soundingsref05_Right.j1 k x0 x3 ((rd_T47 x0 x3).f1) true))) else (none)) else (some true)
def soundingsref05_Right.j1 : Nat → List (S47) → Int → List (S26) → Bool → Option (Bool)
 | 0, _, _, _, _ => none
 | k + 1, x0, x3, x4, x37 => if x37 = true then (some false) else (soundingsref05_Right.l1 k x0 x3 x4 0)
def soundingsref05_Right.l1 : Nat → List (S47) → Int → List (S26) → Int → Option (Bool)
 | 0, _, _, _, _ => none
 | k + 1, x0, x3, x4, x5 => if x5 < (x4.length : Int) then (if 0 ≤ x5 then (if ((rd_T26 x4 x5).f0) < (-1125899906842624) then (some false) else (if ((rd_T26 x4 x5).f0) > 1125899906842624 then (some false) else ((soundingsref04_Norm.f ((rd_T26 x4 x5).f1)).bind fun t197 => (if t197 = ((rd_T26 x4 x5).f1) then (if x5 > 0 then (if 0 ≤ (wrap64 (x5 - 1)) then (if (wrap64 (x5 - 1)) < (x4.length : Int) then (if ((rd_T26 x4 x5).f0) ≤ ((rd_T26 x4 (wrap64 (x5 - 1))).f0) then (some false) else (soundingsref05_Right.l1 k x0 x3 x4 (wrap64 (x5 + 1)))) else (none)) else (none)) else (soundingsref05_Right.l1 k x0 x3 x4 (wrap64 (x5 + 1)))) else (some false))))) else (none)) else (if x3 > 0 then (if 0 ≤ x3 then (if x3 < (x0.length : Int) then (if 0 ≤ (wrap64 (x3 - 1)) then (if (wrap64 (x3 - 1)) < (x0.length : Int) then ((soundingsref01_Cmp.f k ((rd_T47 x0 x3).f0) ((rd_T47 x0 (wrap64 (x3 - 1))).f0)).bind fun t203 => (if t203 = 1 then (soundingsref05_Right.l0 k x0 (wrap64 (x3 + 1))) else (some false))) else (none)) else (none)) else (none)) else (none)) else (soundingsref05_Right.l0 k x0 (wrap64 (x3 + 1))))
end
def soundingsref05_Right.f (k : Nat) (l0 : List (S47)) : Option (Bool) := soundingsref05_Right.l0 k l0 0
theorem soundingsref05_Right.mono_l : ∀ k, (∀ y0 y1, LeO (soundingsref05_Right.l0 k y0 y1) (soundingsref05_Right.l0 (k + 1) y0 y1)) ∧ (∀ y0 y1 y2 y3, LeO (soundingsref05_Right.j1 k y0 y1 y2 y3) (soundingsref05_Right.j1 (k + 1) y0 y1 y2 y3)) ∧ (∀ y0 y1 y2 y3, LeO (soundingsref05_Right.l1 k y0 y1 y2 y3) (soundingsref05_Right.l1 (k + 1) y0 y1 y2 y3))
 | 0 => ⟨fun _ _ r h => by simp [soundingsref05_Right.l0] at h, fun _ _ _ _ r h => by simp [soundingsref05_Right.j1] at h, fun _ _ _ _ r h => by simp [soundingsref05_Right.l1] at h⟩
 | k + 1 => by
  obtain ⟨ih0, ih1, ih2⟩ := soundingsref05_Right.mono_l k
  refine ⟨?_, ?_, ?_⟩
  ·intro y0 y1
   unfold soundingsref05_Right.l0
   repeat' first
   | (with_reducible exact ih0 _ _)
   | (with_reducible exact ih1 _ _ _ _)
   | (with_reducible exact ih2 _ _ _ _)
   | (with_reducible exact soundingsref01_Cmp.mono _ _ _)
   | (with_reducible exact LeO.refl _)
   | (with_reducible exact LeO.none _)
   | (with_reducible refine LeO.ite ?_ ?_)
   | (with_reducible refine LeO.bind ?_ (fun _ => ?_))
   | exact ih0 _ _
   | exact ih1 _ _ _ _
   | exact ih2 _ _ _ _
   | exact soundingsref01_Cmp.mono _ _ _
   | exact LeO.none _
   | refine LeO.ite ?_ ?_
   | refine LeO.bind ?_ (fun _ => ?_)
  ·intro y0 y1 y2 y3
   unfold soundingsref05_Right.j1
   repeat' first
   | (with_reducible exact ih0 _ _)
   | (with_reducible exact ih1 _ _ _ _)
   | (with_reducible exact ih2 _ _ _ _)
   | (with_reducible exact soundingsref01_Cmp.mono _ _ _)
   | (with_reducible exact LeO.refl _)
   | (with_reducible exact LeO.none _)
   | (with_reducible refine LeO.ite ?_ ?_)
   | (with_reducible refine LeO.bind ?_ (fun _ => ?_))
   | exact ih0 _ _
   | exact ih1 _ _ _ _
   | exact ih2 _ _ _ _
   | exact soundingsref01_Cmp.mono _ _ _
   | exact LeO.none _
   | refine LeO.ite ?_ ?_
   | refine LeO.bind ?_ (fun _ => ?_)
  ·intro y0 y1 y2 y3
   unfold soundingsref05_Right.l1
   repeat' first
   | (with_reducible exact ih0 _ _)
   | (with_reducible exact ih1 _ _ _ _)
   | (with_reducible exact ih2 _ _ _ _)
   | (with_reducible exact soundingsref01_Cmp.mono _ _ _)
   | (with_reducible exact LeO.refl _)
   | (with_reducible exact LeO.none _)
   | (with_reducible refine LeO.ite ?_ ?_)
   | (with_reducible refine LeO.bind ?_ (fun _ => ?_))
   | exact ih0 _ _
   | exact ih1 _ _ _ _
   | exact ih2 _ _ _ _
   | exact soundingsref01_Cmp.mono _ _ _
   | exact LeO.none _
   | refine LeO.ite ?_ ?_
   | refine LeO.bind ?_ (fun _ => ?_)
theorem soundingsref05_Right.mono : ∀ a0 k, LeO (soundingsref05_Right.f k a0) (soundingsref05_Right.f (k + 1) a0) := by
 intro a0 k
 obtain ⟨ih0, ih1, ih2⟩ := soundingsref05_Right.mono_l k
 unfold soundingsref05_Right.f
 repeat' first
   | (with_reducible exact ih0 _ _)
   | (with_reducible exact ih1 _ _ _ _)
   | (with_reducible exact ih2 _ _ _ _)
   | (with_reducible exact soundingsref01_Cmp.mono _ _ _)
   | (with_reducible exact LeO.refl _)
   | (with_reducible exact LeO.none _)
   | (with_reducible refine LeO.ite ?_ ?_)
   | (with_reducible refine LeO.bind ?_ (fun _ => ?_))
   | exact ih0 _ _
   | exact ih1 _ _ _ _
   | exact ih2 _ _ _ _
   | exact soundingsref01_Cmp.mono _ _ _
   | exact LeO.none _
   | refine LeO.ite ?_ ?_
   | refine LeO.bind ?_ (fun _ => ?_)
def soundingsref05_Right.T10 : Bool × List (List Nat × List Nat) := (true, [([], []), ([], []), ([0, 1], [0, 1]), ([2], [2]), ([3], [3]), ([4], [4]), ([5], [5]), ([6], [6]), ([6], [6]), ([7, 8, 6], [6, 7, 8]), ([9, 6], [6, 9]), ([10, 6], [6, 10]), ([11, 6], [6, 11]), ([6, 12], [6, 12]), ([13, 6], [13]), ([14], [14]), ([14], [14]), ([15, 16, 14], [14, 15, 16]), ([17, 14], [14, 17]), ([18, 14], [14, 18]), ([19, 14, 14], [14, 19]), ([14], [14]), ([14], [14]), ([21, 22, 14], [14, 21, 22]), ([23, 14], [14, 23]), ([24, 14], [14, 24]), ([20, 25, 14], [14, 20, 25]), ([14, 26], [14, 26]), ([27, 20], [27]), ([28], [28]), ([29, 28], [28, 29]), ([30, 28, 28], [28, 30]), ([31], [31]), ([31], [31]), ([32, 33, 31], [31, 32, 33]), ([34, 31], [31, 34]), ([35, 31], [31, 35]), ([31], [31]), ([31], [31]), ([38, 31], [31, 38]), ([37, 39, 31], [31, 37, 39]), ([40, 31], [31, 40]), ([41, 31], [31, 41]), ([36, 42, 31], [31, 36, 42]), ([31, 43, 28], [28, 31, 43]), ([28, 44], [28, 44])])
def soundingsref05_Right.B10 : List Nat := [0, 0, 3, 7, 15, 31, 63, 127, 127, 511, 1023, 2047, 4095, 8191, 16383, 32767, 32767, 131071, 262143, 524287, 1048575, 32767, 32767, 6324223, 14712831, 31490047, 67108863, 134217727, 268435455, 536870911, 1073741823, 2147483647, 4294967295, 4294967295, 17179869183, 34359738367, 68719476735, 4294967295, 4294967295, 279172874239, 966367641599, 2065879269375, 4264902524927, 8796093022207, 17592186044415, 35184372088831]
theorem soundingsref05_Right.tab10 : rtab .any (opsOf Tryz.f15 10) = soundingsref05_Right.T10 := by kernel_rfl
theorem soundingsref05_Right.bits10 : waitsOk soundingsref05_Right.T10.2 soundingsref05_Right.B10 = true := by kernel_rfl
def soundingsref05_Right.T12 : Bool × List (List Nat × List Nat) := (true, [([], []), ([0], [0]), ([1], [1]), ([2], [2]), ([2], [2]), ([3, 4, 2], [2, 3, 4]), ([5, 2], [2, 5]), ([6, 2], [2, 6]), ([2], [2]), ([2], [2]), ([9, 2], [2, 9]), ([8, 10, 2], [2, 8, 10]), ([11, 2], [2, 11]), ([12, 2], [2, 12]), ([7, 13, 2, 2], [2, 7, 13]), ([14, 2], [2, 14]), ([2, 15], [2, 15])])
def soundingsref05_Right.B12 : List Nat := [0, 1, 3, 7, 7, 31, 63, 127, 7, 7, 519, 1799, 3847, 7943, 16383, 32767, 65535]
theorem soundingsref05_Right.tab12 : rtab .any (opsOf Tryz.f15 12) = soundingsref05_Right.T12 := by kernel_rfl
theorem soundingsref05_Right.bits12 : waitsOk soundingsref05_Right.T12.2 soundingsref05_Right.B12 = true := by kernel_rfl
set_option maxHeartbeats 8000000 in
set_option maxRecDepth 100000 in
theorem soundingsref05_Right.calls (k : Nat) (A0 : Option Addr) (c0 : Nat) (l0 : List (S47)) (r : Bool) (w : World) (hr0 : Kd.C k47 w A0 l0.length l0) (hc0 : l0.length ≤ c0) (h : soundingsref05_Right.f k l0 = some r) :
  Calls Tryz.prog 15 #[.slice A0 l0.length c0] w fun e w' => e = .returned (.bool r) ∧ Below w.heap.size w w' := by
 have HR0 := Aside0.mk hr0
 have HC0 := Aside0.mk hc0
 clear hr0 hc0
 have HB := Aside0.mk (Below.refl w.heap.size w)
 have H : (soundingsref05_Right.l0 k l0 0) = some r := h
 clear h
 have H' := Aside0.mk H
 clear H
 go_enter Tryz.func15, Tryz.ntmps15
 go_wp2
 go_loopg [3] k (fun kq v3 w' => ∃ (x3_1 : Int), v3 = .int .i64 x3_1 ∧ Aside0 (soundingsref05_Right.l0 kq l0 x3_1 = some r) ∧ Aside0 (kq ≤ k) ∧ Aside0 (Below w.heap.size w w'))
 case atStart => exact ⟨(0), (by first | rfl | (simp; done) | (simp [*]; done)), H', ⟨Nat.le_refl _⟩, ⟨by repeat (first | (with_reducible first | exact HB.out | apply below_alloc | apply pw_below_drewN | apply below_drew1) | exact HB.out)⟩⟩
 case round =>
  clear H'
  try clear c1
  obtain ⟨x3_1, rfl, HA, HK1, HB⟩ := hrel
  cases gk with
  | zero => exact absurd HA.out (by simp [soundingsref05_Right.l0])
  | succ k1 =>
   have H := HA.out
   clear HA
   simp only [soundingsref05_Right.l0] at H
   by_cases c2 : x3_1 < (l0.length : Int)
   ·rw [if_pos c2] at H
    have c2b0 : decide (x3_1 < (l0.length : Int)) = true := decide_eq_true c2
    clear c2
    by_cases c3 : 0 ≤ x3_1
    ·rw [if_pos c3] at H
     have c3b0 : decide (0 ≤ x3_1) = true := decide_eq_true c3
     clear c3
     have HC4 := Aside0.mk H
     clear H
     have p190 : 0 ≤ (x3_1 : Int) := of_decide_eq_true (by first | (with_reducible assumption) | assumption)
     have q190 : x3_1 < (l0.length : Int) := of_decide_eq_true (by first | (with_reducible assumption) | assumption)
     obtain ⟨ad190, A190_0, c190_0, A190_1, c190_1, e190, hx190_0, hx190_1, hl190_0, hi190_0, hl190_1, hi190_1⟩ := at_T47 HR0.out x3_1 p190 q190
     cases e190
     replace hx190_0 := (HB.out.cell (World.block_lt_of_cell? w _ hx190_0)).trans hx190_0
     replace hx190_1 := (HB.out.cell (World.block_lt_of_cell? w _ hx190_1)).trans hx190_1
     have HR190_0 := Aside0.mk hi190_0
     have HC190_0 := Aside0.mk hl190_0
     clear hi190_0 hl190_0
     have HR190_1 := Aside0.mk hi190_1
     have HC190_1 := Aside0.mk hl190_1
     clear hi190_1 hl190_1
     replace p190 := eq_true p190
     replace q190 := eq_true q190
     go_upto_region 5 with (fail)
     go_cut [37] (fun v37 wc => ∃ (kq : Nat) (x37_3 : Bool), v37 = .bool x37_3 ∧ Aside0 (soundingsref05_Right.j1 kq l0 x3_1 ((rd_T47 l0 x3_1).f1) x37_3 = some r) ∧ Aside0 (kq ≤ k1) ∧ Aside0 (Below w.heap.size w wc))
     case first =>
      have H := HC4.out
      clear HC4
      replace H := Option.bind_eq_some_iff.mp H
      obtain ⟨t192, A50, H⟩ := H
      replace H : (if t192 = true then (if (((rd_T47 l0 x3_1).f0).length : Int) = 0 then (soundingsref05_Right.j1 k1 l0 x3_1 ((rd_T47 l0 x3_1).f1) true) else (soundingsref05_Right.j1 k1 l0 x3_1 ((rd_T47 l0 x3_1).f1) ((((rd_T47 l0 x3_1).f1).length : Int) == 0))) else (soundingsref05_Right.j1 k1 l0 x3_1 ((rd_T47 l0 x3_1).f1) true)) = some r := H
      have A5 := Aside0.mk A50
      clear A50
      by_cases c6 : t192 = true
      ·subst c6
       have H1 : (if (((rd_T47 l0 x3_1).f0).length : Int) = 0 then (soundingsref05_Right.j1 k1 l0 x3_1 ((rd_T47 l0 x3_1).f1) true) else (soundingsref05_Right.j1 k1 l0 x3_1 ((rd_T47 l0 x3_1).f1) ((((rd_T47 l0 x3_1).f1).length : Int) == 0))) = some r := by rw [if_pos rfl] at H; exact H
       clear H
       have H := H1
       clear H1
       by_cases c7 : (((rd_T47 l0 x3_1).f0).length : Int) = 0
       ·rw [if_pos c7] at H
        have c7b0 : ((((rd_T47 l0 x3_1).f0).length : Int) == 0) = true := beq_iff_eq.mpr c7
        have c7b1 : ((((rd_T47 l0 x3_1).f0).length : Int) != 0) = false := bne_eq_false_iff_eq.mpr c7
        clear c7
        (first | rw [c7b0] | (simp only [i64_w, i32_w]; rw [c7b0]) | skip)
        have H' := Aside0.mk H
        clear H
        have p191 : 0 ≤ (x3_1 : Int) := of_decide_eq_true (by first | (with_reducible assumption) | assumption)
        have q191 : x3_1 < (l0.length : Int) := of_decide_eq_true (by first | (with_reducible assumption) | assumption)
        obtain ⟨ad191, A191_0, c191_0, A191_1, c191_1, e191, hx191_0, hx191_1, hl191_0, hi191_0, hl191_1, hi191_1⟩ := at_T47 HR0.out x3_1 p191 q191
        obtain rfl : ad190 = ad191 := (by injection e191); (try clear hx190_0); (try clear hx190_1)
        replace hx191_0 := (HB.out.cell (World.block_lt_of_cell? w _ hx191_0)).trans hx191_0
        replace hx191_1 := (HB.out.cell (World.block_lt_of_cell? w _ hx191_1)).trans hx191_1
        have HR191_0 := Aside0.mk hi191_0
        have HC191_0 := Aside0.mk hl191_0
        clear hi191_0 hl191_0
        have HR191_1 := Aside0.mk hi191_1
        have HC191_1 := Aside0.mk hl191_1
        clear hi191_1 hl191_1
        replace p191 := eq_true p191
        replace q191 := eq_true q191
        go_wp2_with (first | ((with_reducible refine gate_callee (f := 35) rfl ?_); refine goesL_ (some 22) rfl rfl Tryz.func35 (by kernel_rfl) rfl #[.slice A191_0 ((rd_T47 l0 x3_1).f0).length c191_0] rfl (by (try simp only [List.map_toArray, List.map_cons, List.map_nil]); first | done | rfl | (simp only [List.length_drop, List.length_take]; rfl)) ?_; (with_reducible refine (soundingsref01_Right.calls _ _ ((rd_T47 l0 x3_1).f0) true _ ?side1 ?side2 A5.out).mono ?_); (case side1 => repeat (first | exact (Kd.C_below HR191_0.out HB.out) | (with_reducible refine Kd.C_alloc ?_ _) | (with_reducible refine Kd.C_drewN ?_ _) | (with_reducible refine Kd.C_drew ?_))); (case side2 => exact HC191_0.out); rintro e w8 ⟨rfl, hb⟩; refine ⟨_, rfl, ?_⟩; have n0_ := Aside0.mk (below_step (by repeat (first | (with_reducible first | exact HB.out | apply below_alloc | apply pw_below_drewN | apply below_drew1) | exact HB.out)) hb); clear HB; have HB := n0_; clear n0_; (try clear hb); (try clear hb2); (try clear hk); (try clear hi); have p193 : 0 ≤ (x3_1 : Int) := of_decide_eq_true (by first | (with_reducible assumption) | assumption); have q193 : x3_1 < (l0.length : Int) := of_decide_eq_true (by first | (with_reducible assumption) | assumption); obtain ⟨ad193, A193_0, c193_0, A193_1, c193_1, e193, hx193_0, hx193_1, hl193_0, hi193_0, hl193_1, hi193_1⟩ := at_T47 HR0.out x3_1 p193 q193; obtain rfl : ad190 = ad193 := (by injection e193); replace hx193_0 := (HB.out.cell (World.block_lt_of_cell? w _ hx193_0)).trans hx193_0; replace hx193_1 := (HB.out.cell (World.block_lt_of_cell? w _ hx193_1)).trans hx193_1; have HR193_0 := Aside0.mk hi193_0; have HC193_0 := Aside0.mk hl193_0; clear hi193_0 hl193_0; have HR193_1 := Aside0.mk hi193_1; have HC193_1 := Aside0.mk hl193_1; clear hi193_1 hl193_1; replace p193 := eq_true p193; replace q193 := eq_true q193))
        go_meet
        case rel => exact ⟨_, (true), (by first | rfl | (simp; done) | (simp [*]; done)), H', ⟨by have := HK1.out; first | omega | exact Nat.le_refl _⟩, ⟨by repeat (first | (with_reducible first | exact HB.out | apply below_alloc | apply pw_below_drewN | apply below_drew1) | exact HB.out)⟩⟩
       ·rw [if_neg c7] at H
        have c7b0 : ((((rd_T47 l0 x3_1).f0).length : Int) == 0) = false := beq_eq_false_iff_ne.mpr c7
        have c7b1 : ((((rd_T47 l0 x3_1).f0).length : Int) != 0) = true := bne_iff_ne.mpr c7
        have c7b2 : ¬ (((rd_T47 l0 x3_1).f0) = []) := fun h_ => c7 (by rw [h_]; rfl)
        (first | rw [c7b0] | (simp only [i64_w, i32_w]; rw [c7b0]) | skip)
        have H' := Aside0.mk H
        clear H
        have p191 : 0 ≤ (x3_1 : Int) := of_decide_eq_true (by first | (with_reducible assumption) | assumption)
        have q191 : x3_1 < (l0.length : Int) := of_decide_eq_true (by first | (with_reducible assumption) | assumption)
        obtain ⟨ad191, A191_0, c191_0, A191_1, c191_1, e191, hx191_0, hx191_1, hl191_0, hi191_0, hl191_1, hi191_1⟩ := at_T47 HR0.out x3_1 p191 q191
        obtain rfl : ad190 = ad191 := (by injection e191); (try clear hx190_0); (try clear hx190_1)
        replace hx191_0 := (HB.out.cell (World.block_lt_of_cell? w _ hx191_0)).trans hx191_0
        replace hx191_1 := (HB.out.cell (World.block_lt_of_cell? w _ hx191_1)).trans hx191_1
        have HR191_0 := Aside0.mk hi191_0
        have HC191_0 := Aside0.mk hl191_0
        clear hi191_0 hl191_0
        have HR191_1 := Aside0.mk hi191_1
        have HC191_1 := Aside0.mk hl191_1
        clear hi191_1 hl191_1
        replace p191 := eq_true p191
        replace q191 := eq_true q191
        go_wp2_with (first | ((with_reducible refine gate_callee (f := 35) rfl ?_); refine goesL_ (some 22) rfl rfl Tryz.func35 (by kernel_rfl) rfl #[.slice A191_0 ((rd_T47 l0 x3_1).f0).length c191_0] rfl (by (try simp only [List.map_toArray, List.map_cons, List.map_nil]); first | done | rfl | (simp only [List.length_drop, List.length_take]; rfl)) ?_; (with_reducible refine (soundingsref01_Right.calls _ _ ((rd_T47 l0 x3_1).f0) true _ ?side1 ?side2 A5.out).mono ?_); (case side1 => repeat (first | exact (Kd.C_below HR191_0.out HB.out) | (with_reducible refine Kd.C_alloc ?_ _) | (with_reducible refine Kd.C_drewN ?_ _) | (with_reducible refine Kd.C_drew ?_))); (case side2 => exact HC191_0.out); rintro e w9 ⟨rfl, hb⟩; refine ⟨_, rfl, ?_⟩; have n0_ := Aside0.mk (below_step (by repeat (first | (with_reducible first | exact HB.out | apply below_alloc | apply pw_below_drewN | apply below_drew1) | exact HB.out)) hb); clear HB; have HB := n0_; clear n0_; (try clear hb); (try clear hb2); (try clear hk); (try clear hi); have p193 : 0 ≤ (x3_1 : Int) := of_decide_eq_true (by first | (with_reducible assumption) | assumption); have q193 : x3_1 < (l0.length : Int) := of_decide_eq_true (by first | (with_reducible assumption) | assumption); obtain ⟨ad193, A193_0, c193_0, A193_1, c193_1, e193, hx193_0, hx193_1, hl193_0, hi193_0, hl193_1, hi193_1⟩ := at_T47 HR0.out x3_1 p193 q193; obtain rfl : ad190 = ad193 := (by injection e193); replace hx193_0 := (HB.out.cell (World.block_lt_of_cell? w _ hx193_0)).trans hx193_0; replace hx193_1 := (HB.out.cell (World.block_lt_of_cell? w _ hx193_1)).trans hx193_1; have HR193_0 := Aside0.mk hi193_0; have HC193_0 := Aside0.mk hl193_0; clear hi193_0 hl193_0; have HR193_1 := Aside0.mk hi193_1; have HC193_1 := Aside0.mk hl193_1; clear hi193_1 hl193_1; replace p193 := eq_true p193; replace q193 := eq_true q193))
        go_meet
        case rel => exact ⟨_, (((((rd_T47 l0 x3_1).f1).length : Int) == 0)), (by first | rfl | (simp; done) | (simp [*]; done)), H', ⟨by have := HK1.out; first | omega | exact Nat.le_refl _⟩, ⟨by repeat (first | (with_reducible first | exact HB.out | apply below_alloc | apply pw_below_drewN | apply below_drew1) | exact HB.out)⟩⟩
      ·replace c6 := Bool.eq_false_iff.mpr c6
       subst c6
       have H1 : (soundingsref05_Right.j1 k1 l0 x3_1 ((rd_T47 l0 x3_1).f1) true) = some r := by rw [if_neg (show ¬ (false = true) by decide)] at H; exact H
       clear H
       have H := H1
       clear H1
       have H' := Aside0.mk H
       clear H
       have p191 : 0 ≤ (x3_1 : Int) := of_decide_eq_true (by first | (with_reducible assumption) | assumption)
       have q191 : x3_1 < (l0.length : Int) := of_decide_eq_true (by first | (with_reducible assumption) | assumption)
       obtain ⟨ad191, A191_0, c191_0, A191_1, c191_1, e191, hx191_0, hx191_1, hl191_0, hi191_0, hl191_1, hi191_1⟩ := at_T47 HR0.out x3_1 p191 q191
       obtain rfl : ad190 = ad191 := (by injection e191); (try clear hx190_0); (try clear hx190_1)
       replace hx191_0 := (HB.out.cell (World.block_lt_of_cell? w _ hx191_0)).trans hx191_0
       replace hx191_1 := (HB.out.cell (World.block_lt_of_cell? w _ hx191_1)).trans hx191_1
       have HR191_0 := Aside0.mk hi191_0
       have HC191_0 := Aside0.mk hl191_0
       clear hi191_0 hl191_0
       have HR191_1 := Aside0.mk hi191_1
       have HC191_1 := Aside0.mk hl191_1
       clear hi191_1 hl191_1
       replace p191 := eq_true p191
       replace q191 := eq_true q191
       go_wp2_with (first | ((with_reducible refine gate_callee (f := 35) rfl ?_); refine goesL_ (some 22) rfl rfl Tryz.func35 (by kernel_rfl) rfl #[.slice A191_0 ((rd_T47 l0 x3_1).f0).length c191_0] rfl (by (try simp only [List.map_toArray, List.map_cons, List.map_nil]); first | done | rfl | (simp only [List.length_drop, List.length_take]; rfl)) ?_; (with_reducible refine (soundingsref01_Right.calls _ _ ((rd_T47 l0 x3_1).f0) false _ ?side1 ?side2 A5.out).mono ?_); (case side1 => repeat (first | exact (Kd.C_below HR191_0.out HB.out) | (with_reducible refine Kd.C_alloc ?_ _) | (with_reducible refine Kd.C_drewN ?_ _) | (with_reducible refine Kd.C_drew ?_))); (case side2 => exact HC191_0.out); rintro e w10 ⟨rfl, hb⟩; refine ⟨_, rfl, ?_⟩; have n0_ := Aside0.mk (below_step (by repeat (first | (with_reducible first | exact HB.out | apply below_alloc | apply pw_below_drewN | apply below_drew1) | exact HB.out)) hb); clear HB; have HB := n0_; clear n0_; (try clear hb); (try clear hb2); (try clear hk); (try clear hi)))
       go_meet
       case rel => exact ⟨_, (true), (by first | rfl | (simp; done) | (simp [*]; done)), H', ⟨by have := HK1.out; first | omega | exact Nat.le_refl _⟩, ⟨by repeat (first | (with_reducible first | exact HB.out | apply below_alloc | apply pw_below_drewN | apply below_drew1) | exact HB.out)⟩⟩
     case rest =>
      clear HC4
      try clear c1
      try clear p1
      try clear q1
      try clear hx1
      try clear c2
      try clear c2b0
      try clear p2
      try clear c3
      try clear c3b0
      try clear c6
      try clear c7
      try clear c7b0
      try clear c7b1
      try clear c7b2
      try clear hx190_0
      try clear hx190_1
      try clear hx191_0
      try clear hx191_1
      try clear hx193_0
      try clear hx193_1
      try clear p190
      try clear p191
      try clear p193
      try clear q190
      try clear q191
      try clear q193
      obtain ⟨kq, x37_3, rfl, HA, HJ3, HB⟩ := hcut
      cases kq with
      | zero => exact absurd HA.out (by simp [soundingsref05_Right.j1])
      | succ kj3 =>
       have H := HA.out
       clear HA
       simp only [soundingsref05_Right.j1] at H
       by_cases c11 : x37_3 = true
       ·subst c11
        have H1 : (some false) = some r := by rw [if_pos rfl] at H; exact H
        clear H
        have H := H1
        clear H1
        obtain rfl := Option.some.inj H
        go_wp2
        go_ret
        exact ⟨by first | rfl | (simp [errW_none, errW_some] <;> rfl) | (simp [*, errW_none, errW_some] <;> rfl), by repeat (first | (with_reducible first | exact HB.out | apply below_alloc | apply pw_below_drewN | apply below_drew1) | exact HB.out)⟩
       ·replace c11 := Bool.eq_false_iff.mpr c11
        subst c11
        have H1 : (soundingsref05_Right.l1 kj3 l0 x3_1 ((rd_T47 l0 x3_1).f1) 0) = some r := by rw [if_neg (show ¬ (false = true) by decide)] at H; exact H
        clear H
        have H := H1
        clear H1
        have H' := Aside0.mk H
        clear H
        go_wp2
        go_loopg [5] kj3 (fun kq v5 w' => ∃ (x5_3 : Int), v5 = .int .i64 x5_3 ∧ Aside0 (soundingsref05_Right.l1 kq l0 x3_1 ((rd_T47 l0 x3_1).f1) x5_3 = some r) ∧ Aside0 (kq ≤ kj3) ∧ Aside0 (Below w.heap.size w w'))
        case atStart => exact ⟨(0), (by first | rfl | (simp; done) | (simp [*]; done)), H', ⟨Nat.le_refl _⟩, ⟨by repeat (first | (with_reducible first | exact HB.out | apply below_alloc | apply pw_below_drewN | apply below_drew1) | exact HB.out)⟩⟩
        case round =>
         clear H'
         try clear c1
         try clear p1
         try clear q1
         try clear hx1
         try clear c2
         try clear c2b0
         try clear p2
         try clear c3
         try clear c3b0
         try clear c6
         try clear c7
         try clear c7b0
         try clear c7b1
         try clear c7b2
         try clear c11
         try clear hx190_0
         try clear hx190_1
         try clear hx191_0
         try clear hx191_1
         try clear hx193_0
         try clear hx193_1
         try clear p1
         try clear p190
         try clear p191
         try clear p193
         try clear p2
         try clear q1
         try clear q190
         try clear q191
         try clear q193
         obtain ⟨x5_3, rfl, HA, HK3, HB⟩ := hrel
         cases gk with
         | zero => exact absurd HA.out (by simp [soundingsref05_Right.l1])
         | succ k3 =>
          have H := HA.out
          clear HA
          simp only [soundingsref05_Right.l1] at H
          by_cases c12 : x5_3 < (((rd_T47 l0 x3_1).f1).length : Int)
          ·rw [if_pos c12] at H
           have c12b0 : decide (x5_3 < (((rd_T47 l0 x3_1).f1).length : Int)) = true := decide_eq_true c12
           clear c12
           by_cases c13 : 0 ≤ x5_3
           ·rw [if_pos c13] at H
            have c13b0 : decide (0 ≤ x5_3) = true := decide_eq_true c13
            clear c13
            by_cases c14 : ((rd_T26 ((rd_T47 l0 x3_1).f1) x5_3).f0) < (-1125899906842624)
            ·rw [if_pos c14] at H
             have c14b0 : decide (((rd_T26 ((rd_T47 l0 x3_1).f1) x5_3).f0) < (-1125899906842624)) = true := decide_eq_true c14
             clear c14
             obtain rfl := Option.some.inj H
             try go_wp2
             have n0_ := Aside0.mk (below_drew1 HB.out)
             clear HB
             have HB := n0_
             clear n0_
             have p194 : 0 ≤ (x5_3 : Int) := of_decide_eq_true (by first | (with_reducible assumption) | assumption)
             have q194 : x5_3 < (((rd_T47 l0 x3_1).f1).length : Int) := of_decide_eq_true (by first | (with_reducible assumption) | assumption)
             obtain ⟨ad194, e194, hx194_0, hx194_1⟩ := at_T26 HR190_1.out x5_3 p194 q194
             have hw194_1 := hx194_1
             have hw194_0 := hx194_0
             cases e194
             replace hx194_0 := (HB.out.cell (World.block_lt_of_cell? w _ hx194_0)).trans hx194_0
             replace hx194_1 := (HB.out.cell (World.block_lt_of_cell? w _ hx194_1)).trans hx194_1
             replace p194 := eq_true p194
             replace q194 := eq_true q194
             refine start_ (n := 46) (S := fun w' => w'.cell? (ad194.add ((x5_3).toNat * 2)) = some (.int .i64 ((rd_T26 ((rd_T47 l0 x3_1).f1) x5_3).f0)) ∧ w'.cell? ⟨(ad194.add ((x5_3).toNat * 2)).block, (ad194.add ((x5_3).toNat * 2)).off + 1, none⟩ = some (.int .u64 ((rd_T26 ((rd_T47 l0 x3_1).f1) x5_3).f1))) (ds := []) (bz 46 0) (by kernel_rfl) rfl rfl ⟨((HB.out.cell (World.block_lt_of_cell? w _ hw194_0)).trans hw194_0), ((HB.out.cell (World.block_lt_of_cell? w _ hw194_1)).trans hw194_1)⟩ (fun hHeld => ?_); refine with_tabW soundingsref05_Right.tab10 soundingsref05_Right.bits10 (fun HT_ HW_ => ?_)
             generalize wr.drew = w15 at HB hx194_0 hx194_1 hHeld ⊢
             refine pq 0 44 (bz 46 1) (any_of HT_.out (by kernel_rfl)) ?_
             refine pq 1 45 (bz 46 3) (any_of HT_.out (by kernel_rfl)) ?_
             refine pq 2 46 (bz 46 7) (any_of HT_.out (by kernel_rfl)) ?_
             refine pq 3 47 (bz 46 15) (any_of HT_.out (by kernel_rfl)) ?_
             refine tq 4 48 (bz 46 31) (take_ofW HT_.out HW_.out (by kernel_rfl)) rfl rfl (by rintro w' ⟨s0, s1⟩; go_simp; with_reducible rfl) hHeld ?_
             refine pq 5 49 (bz 46 63) (any_of HT_.out (by kernel_rfl)) ?_
             refine pq 6 50 (bz 46 127) (any_of HT_.out (by kernel_rfl)) ?_
             refine pn 7 51 (bz 46 255) (any_of HT_.out (by kernel_rfl)) ?_
             refine pn 8 52 (bz 46 511) (any_of HT_.out (by kernel_rfl)) ?_
             refine pn 9 53 (bz 46 1023) (any_of HT_.out (by kernel_rfl)) ?_
             refine pn 10 54 (bz 46 2047) (any_of HT_.out (by kernel_rfl)) ?_
             refine pn 11 55 (bz 46 4095) (any_of HT_.out (by kernel_rfl)) ?_
             refine pn 12 56 (bz 46 8191) (any_of HT_.out (by kernel_rfl)) ?_
             refine pq 13 57 (bz 46 16383) (any_of HT_.out (by kernel_rfl)) ?_
             refine pq 14 58 (bz 46 32767) (any_of HT_.out (by kernel_rfl)) ?_
             refine pn 15 59 (bz 46 65535) (any_of HT_.out (by kernel_rfl)) ?_
             refine pn 16 60 (bz 46 131071) (any_of HT_.out (by kernel_rfl)) ?_
             refine pn 17 61 (bz 46 262143) (any_of HT_.out (by kernel_rfl)) ?_
             refine pn 18 62 (bz 46 524287) (any_of HT_.out (by kernel_rfl)) ?_
             refine pn 19 63 (bz 46 1048575) (any_of HT_.out (by kernel_rfl)) ?_
             refine pn 20 64 (bz 46 2097151) (any_of HT_.out (by kernel_rfl)) ?_
             refine pn 21 65 (bz 46 4194303) (any_of HT_.out (by kernel_rfl)) ?_
             refine pn 22 66 (bz 46 8388607) (any_of HT_.out (by kernel_rfl)) ?_
             refine pn 23 67 (bz 46 16777215) (any_of HT_.out (by kernel_rfl)) ?_
             refine pn 24 68 (bz 46 33554431) (any_of HT_.out (by kernel_rfl)) ?_
             refine pn 25 69 (bz 46 67108863) (any_of HT_.out (by kernel_rfl)) ?_
             refine pn 26 70 (bz 46 134217727) (any_of HT_.out (by kernel_rfl)) ?_
             refine pq 27 71 (bz 46 268435455) (any_of HT_.out (by kernel_rfl)) ?_
             refine pq 28 72 (bz 46 536870911) (any_of HT_.out (by kernel_rfl)) ?_
             refine pn 29 73 (bz 46 1073741823) (any_of HT_.out (by kernel_rfl)) ?_
             refine pn 30 74 (bz 46 2147483647) (any_of HT_.out (by kernel_rfl)) ?_
             refine pn 31 75 (bz 46 4294967295) (any_of HT_.out (by kernel_rfl)) ?_
             refine pn 32 76 (bz 46 8589934591) (any_of HT_.out (by kernel_rfl)) ?_
             refine pn 33 77 (bz 46 17179869183) (any_of HT_.out (by kernel_rfl)) ?_
             refine pn 34 78 (bz 46 34359738367) (any_of HT_.out (by kernel_rfl)) ?_
             refine pn 35 79 (bz 46 68719476735) (any_of HT_.out (by kernel_rfl)) ?_
             refine pn 36 80 (bz 46 137438953471) (any_of HT_.out (by kernel_rfl)) ?_
             refine pn 37 81 (bz 46 274877906943) (any_of HT_.out (by kernel_rfl)) ?_
             refine pn 38 82 (bz 46 549755813887) (any_of HT_.out (by kernel_rfl)) ?_
             refine pn 39 83 (bz 46 1099511627775) (any_of HT_.out (by kernel_rfl)) ?_
             refine pn 40 84 (bz 46 2199023255551) (any_of HT_.out (by kernel_rfl)) ?_
             refine pn 41 85 (bz 46 4398046511103) (any_of HT_.out (by kernel_rfl)) ?_
             refine pn 42 86 (bz 46 8796093022207) (any_of HT_.out (by kernel_rfl)) ?_
             refine pn 43 87 (bz 46 17592186044415) (any_of HT_.out (by kernel_rfl)) ?_
             refine pn 44 88 (bz 46 35184372088831) (any_of HT_.out (by kernel_rfl)) ?_
             refine pq 45 89 (bz 46 70368744177663) (any_of HT_.out (by kernel_rfl)) ?_
             refine done_ (done_of HT_.out (by kernel_rfl)) ?_
             try go_wp2
             go_ret
             exact ⟨by first | rfl | (simp [errW_none, errW_some] <;> rfl) | (simp [*, errW_none, errW_some] <;> rfl), by repeat (first | (with_reducible first | exact HB.out | apply below_alloc | apply pw_below_drewN | apply below_drew1) | exact HB.out)⟩
            ·rw [if_neg c14] at H
             have c14b0 : decide (((rd_T26 ((rd_T47 l0 x3_1).f1) x5_3).f0) < (-1125899906842624)) = false := decide_eq_false c14
             clear c14
             by_cases c16 : ((rd_T26 ((rd_T47 l0 x3_1).f1) x5_3).f0) > 1125899906842624
             ·rw [if_pos c16] at H
              have c16b0 : decide (1125899906842624 < ((rd_T26 ((rd_T47 l0 x3_1).f1) x5_3).f0)) = true := decide_eq_true c16
              clear c16
              obtain rfl := Option.some.inj H
              try go_wp2
              have n0_ := Aside0.mk (below_drew1 HB.out)
              clear HB
              have HB := n0_
              clear n0_
              have p194 : 0 ≤ (x5_3 : Int) := of_decide_eq_true (by first | (with_reducible assumption) | assumption)
              have q194 : x5_3 < (((rd_T47 l0 x3_1).f1).length : Int) := of_decide_eq_true (by first | (with_reducible assumption) | assumption)
              obtain ⟨ad194, e194, hx194_0, hx194_1⟩ := at_T26 HR190_1.out x5_3 p194 q194
              have hw194_1 := hx194_1
              have hw194_0 := hx194_0
              cases e194
              replace hx194_0 := (HB.out.cell (World.block_lt_of_cell? w _ hx194_0)).trans hx194_0
              replace hx194_1 := (HB.out.cell (World.block_lt_of_cell? w _ hx194_1)).trans hx194_1
              replace p194 := eq_true p194
              replace q194 := eq_true q194
              have p195 : 0 ≤ (x5_3 : Int) := of_decide_eq_true (by first | (with_reducible assumption) | assumption)
              have q195 : x5_3 < (((rd_T47 l0 x3_1).f1).length : Int) := of_decide_eq_true (by first | (with_reducible assumption) | assumption)
              obtain ⟨ad195, e195, hx195_0, hx195_1⟩ := at_T26 HR190_1.out x5_3 p195 q195
              have hw195_1 := hx195_1
              have hw195_0 := hx195_0
              obtain rfl : ad194 = ad195 := (by injection e195)
              replace hx195_0 := (HB.out.cell (World.block_lt_of_cell? w _ hx195_0)).trans hx195_0
              replace hx195_1 := (HB.out.cell (World.block_lt_of_cell? w _ hx195_1)).trans hx195_1
              replace p195 := eq_true p195
              replace q195 := eq_true q195
              refine start_ (n := 46) (S := fun w' => w'.cell? (ad194.add ((x5_3).toNat * 2)) = some (.int .i64 ((rd_T26 ((rd_T47 l0 x3_1).f1) x5_3).f0)) ∧ w'.cell? ⟨(ad194.add ((x5_3).toNat * 2)).block, (ad194.add ((x5_3).toNat * 2)).off + 1, none⟩ = some (.int .u64 ((rd_T26 ((rd_T47 l0 x3_1).f1) x5_3).f1)) ∧ w'.cell? (ad194.add ((x5_3).toNat * 2)) = some (.int .i64 ((rd_T26 ((rd_T47 l0 x3_1).f1) x5_3).f0)) ∧ w'.cell? ⟨(ad194.add ((x5_3).toNat * 2)).block, (ad194.add ((x5_3).toNat * 2)).off + 1, none⟩ = some (.int .u64 ((rd_T26 ((rd_T47 l0 x3_1).f1) x5_3).f1))) (ds := []) (bz 46 0) (by kernel_rfl) rfl rfl ⟨((HB.out.cell (World.block_lt_of_cell? w _ hw194_0)).trans hw194_0), ((HB.out.cell (World.block_lt_of_cell? w _ hw194_1)).trans hw194_1), ((HB.out.cell (World.block_lt_of_cell? w _ hw195_0)).trans hw195_0), ((HB.out.cell (World.block_lt_of_cell? w _ hw195_1)).trans hw195_1)⟩ (fun hHeld => ?_); refine with_tabW soundingsref05_Right.tab10 soundingsref05_Right.bits10 (fun HT_ HW_ => ?_)
              generalize wr.drew = w17 at HB hx194_0 hx194_1 hx195_0 hx195_1 hHeld ⊢
              refine pq 0 44 (bz 46 1) (any_of HT_.out (by kernel_rfl)) ?_
              refine pq 1 45 (bz 46 3) (any_of HT_.out (by kernel_rfl)) ?_
              refine pq 2 46 (bz 46 7) (any_of HT_.out (by kernel_rfl)) ?_
              refine pq 3 47 (bz 46 15) (any_of HT_.out (by kernel_rfl)) ?_
              refine tq 4 48 (bz 46 31) (take_ofW HT_.out HW_.out (by kernel_rfl)) rfl rfl (by rintro w' ⟨s0, s1, s2, s3⟩; go_simp; with_reducible rfl) hHeld ?_
              refine pq 5 49 (bz 46 63) (any_of HT_.out (by kernel_rfl)) ?_
              refine pq 6 50 (bz 46 127) (any_of HT_.out (by kernel_rfl)) ?_
              refine pq 7 51 (bz 46 255) (any_of HT_.out (by kernel_rfl)) ?_
              refine pq 8 52 (bz 46 511) (any_of HT_.out (by kernel_rfl)) ?_
              refine pq 9 53 (bz 46 1023) (any_of HT_.out (by kernel_rfl)) ?_
              refine pq 10 54 (bz 46 2047) (any_of HT_.out (by kernel_rfl)) ?_
              refine tq 11 55 (bz 46 4095) (take_ofW HT_.out HW_.out (by kernel_rfl)) rfl rfl (by rintro w' ⟨s0, s1, s2, s3⟩; go_simp; with_reducible rfl) hHeld ?_
              refine pq 12 56 (bz 46 8191) (any_of HT_.out (by kernel_rfl)) ?_
              refine pq 13 57 (bz 46 16383) (any_of HT_.out (by kernel_rfl)) ?_
              refine pq 14 58 (bz 46 32767) (any_of HT_.out (by kernel_rfl)) ?_
              refine pn 15 59 (bz 46 65535) (any_of HT_.out (by kernel_rfl)) ?_
              refine pn 16 60 (bz 46 131071) (any_of HT_.out (by kernel_rfl)) ?_
              refine pn 17 61 (bz 46 262143) (any_of HT_.out (by kernel_rfl)) ?_
              refine pn 18 62 (bz 46 524287) (any_of HT_.out (by kernel_rfl)) ?_
              refine pn 19 63 (bz 46 1048575) (any_of HT_.out (by kernel_rfl)) ?_
              refine pn 20 64 (bz 46 2097151) (any_of HT_.out (by kernel_rfl)) ?_
              refine pn 21 65 (bz 46 4194303) (any_of HT_.out (by kernel_rfl)) ?_
              refine pn 22 66 (bz 46 8388607) (any_of HT_.out (by kernel_rfl)) ?_
              refine pn 23 67 (bz 46 16777215) (any_of HT_.out (by kernel_rfl)) ?_
              refine pn 24 68 (bz 46 33554431) (any_of HT_.out (by kernel_rfl)) ?_
              refine pn 25 69 (bz 46 67108863) (any_of HT_.out (by kernel_rfl)) ?_
              refine pn 26 70 (bz 46 134217727) (any_of HT_.out (by kernel_rfl)) ?_
              refine pq 27 71 (bz 46 268435455) (any_of HT_.out (by kernel_rfl)) ?_
              refine pq 28 72 (bz 46 536870911) (any_of HT_.out (by kernel_rfl)) ?_
              refine pn 29 73 (bz 46 1073741823) (any_of HT_.out (by kernel_rfl)) ?_
              refine pn 30 74 (bz 46 2147483647) (any_of HT_.out (by kernel_rfl)) ?_
              refine pn 31 75 (bz 46 4294967295) (any_of HT_.out (by kernel_rfl)) ?_
              refine pn 32 76 (bz 46 8589934591) (any_of HT_.out (by kernel_rfl)) ?_
              refine pn 33 77 (bz 46 17179869183) (any_of HT_.out (by kernel_rfl)) ?_
              refine pn 34 78 (bz 46 34359738367) (any_of HT_.out (by kernel_rfl)) ?_
              refine pn 35 79 (bz 46 68719476735) (any_of HT_.out (by kernel_rfl)) ?_
              refine pn 36 80 (bz 46 137438953471) (any_of HT_.out (by kernel_rfl)) ?_
              refine pn 37 81 (bz 46 274877906943) (any_of HT_.out (by kernel_rfl)) ?_
              refine pn 38 82 (bz 46 549755813887) (any_of HT_.out (by kernel_rfl)) ?_
              refine pn 39 83 (bz 46 1099511627775) (any_of HT_.out (by kernel_rfl)) ?_
              refine pn 40 84 (bz 46 2199023255551) (any_of HT_.out (by kernel_rfl)) ?_
              refine pn 41 85 (bz 46 4398046511103) (any_of HT_.out (by kernel_rfl)) ?_
              refine pn 42 86 (bz 46 8796093022207) (any_of HT_.out (by kernel_rfl)) ?_
              refine pn 43 87 (bz 46 17592186044415) (any_of HT_.out (by kernel_rfl)) ?_
              refine pn 44 88 (bz 46 35184372088831) (any_of HT_.out (by kernel_rfl)) ?_
              refine pq 45 89 (bz 46 70368744177663) (any_of HT_.out (by kernel_rfl)) ?_
              refine done_ (done_of HT_.out (by kernel_rfl)) ?_
              try go_wp2
              go_ret
              exact ⟨by first | rfl | (simp [errW_none, errW_some] <;> rfl) | (simp [*, errW_none, errW_some] <;> rfl), by repeat (first | (with_reducible first | exact HB.out | apply below_alloc | apply pw_below_drewN | apply below_drew1) | exact HB.out)⟩
             ·rw [if_neg c16] at H
              have c16b0 : decide (1125899906842624 < ((rd_T26 ((rd_T47 l0 x3_1).f1) x5_3).f0)) = false := decide_eq_false c16
              clear c16
              replace H := Option.bind_eq_some_iff.mp H
              obtain ⟨t197, A180, H⟩ := H
              replace H : (if t197 = ((rd_T26 ((rd_T47 l0 x3_1).f1) x5_3).f1) then (if x5_3 > 0 then (if 0 ≤ (wrap64 (x5_3 - 1)) then (if (wrap64 (x5_3 - 1)) < (((rd_T47 l0 x3_1).f1).length : Int) then (if ((rd_T26 ((rd_T47 l0 x3_1).f1) x5_3).f0) ≤ ((rd_T26 ((rd_T47 l0 x3_1).f1) (wrap64 (x5_3 - 1))).f0) then (some false) else (soundingsref05_Right.l1 k3 l0 x3_1 ((rd_T47 l0 x3_1).f1) (wrap64 (x5_3 + 1)))) else (none)) else (none)) else (soundingsref05_Right.l1 k3 l0 x3_1 ((rd_T47 l0 x3_1).f1) (wrap64 (x5_3 + 1)))) else (some false)) = some r := H
              have A18 := Aside0.mk A180
              clear A180
              by_cases c19 : t197 = ((rd_T26 ((rd_T47 l0 x3_1).f1) x5_3).f1)
              ·rw [if_pos c19] at H
               have c19b0 : (t197 == ((rd_T26 ((rd_T47 l0 x3_1).f1) x5_3).f1)) = true := beq_iff_eq.mpr c19
               have c19b1 : (t197 != ((rd_T26 ((rd_T47 l0 x3_1).f1) x5_3).f1)) = false := bne_eq_false_iff_eq.mpr c19
               clear c19
               by_cases c20 : x5_3 > 0
               ·rw [if_pos c20] at H
                have c20b0 : decide (0 < x5_3) = true := decide_eq_true c20
                clear c20
                obtain ⟨ji21, hji21⟩ : ∃ j_ : Int, (wrap64 (x5_3 - 1)) = j_ := ⟨_, rfl⟩
                replace H : (if 0 ≤ (ji21) then (if (ji21) < (((rd_T47 l0 x3_1).f1).length : Int) then (if ((rd_T26 ((rd_T47 l0 x3_1).f1) x5_3).f0) ≤ ((rd_T26 ((rd_T47 l0 x3_1).f1) (ji21)).f0) then (some false) else (soundingsref05_Right.l1 k3 l0 x3_1 ((rd_T47 l0 x3_1).f1) (wrap64 (x5_3 + 1)))) else (none)) else (none)) = some r := by first | (rw [hji21] at H; exact H) | (simp only [hji21] at H ⊢; exact H)
                (try rw [hji21] at A18)
                have hji21w : (IntKind.i64.wrap (x5_3 - 1)) = ji21 := (i64_w _).trans hji21
                by_cases c22 : 0 ≤ (ji21)
                ·rw [if_pos c22] at H
                 have c22b0 : decide (0 ≤ (ji21)) = true := decide_eq_true c22
                 clear c22
                 by_cases c23 : (ji21) < (((rd_T47 l0 x3_1).f1).length : Int)
                 ·rw [if_pos c23] at H
                  have c23b0 : decide ((ji21) < (((rd_T47 l0 x3_1).f1).length : Int)) = true := decide_eq_true c23
                  clear c23
                  by_cases c24 : ((rd_T26 ((rd_T47 l0 x3_1).f1) x5_3).f0) ≤ ((rd_T26 ((rd_T47 l0 x3_1).f1) (ji21)).f0)
                  ·rw [if_pos c24] at H
                   have c24b0 : decide (((rd_T26 ((rd_T47 l0 x3_1).f1) x5_3).f0) ≤ ((rd_T26 ((rd_T47 l0 x3_1).f1) (ji21)).f0)) = true := decide_eq_true c24
                   clear c24
                   obtain rfl := Option.some.inj H
                   try go_wp2
                   have n0_ := Aside0.mk (below_drew1 HB.out)
                   clear HB
                   have HB := n0_
                   clear n0_
                   have p194 : 0 ≤ (x5_3 : Int) := of_decide_eq_true (by first | (with_reducible assumption) | assumption)
                   have q194 : x5_3 < (((rd_T47 l0 x3_1).f1).length : Int) := of_decide_eq_true (by first | (with_reducible assumption) | assumption)
                   obtain ⟨ad194, e194, hx194_0, hx194_1⟩ := at_T26 HR190_1.out x5_3 p194 q194
                   have hw194_1 := hx194_1
                   have hw194_0 := hx194_0
                   cases e194
                   replace hx194_0 := (HB.out.cell (World.block_lt_of_cell? w _ hx194_0)).trans hx194_0
                   replace hx194_1 := (HB.out.cell (World.block_lt_of_cell? w _ hx194_1)).trans hx194_1
                   replace p194 := eq_true p194
                   replace q194 := eq_true q194
                   have p195 : 0 ≤ (x5_3 : Int) := of_decide_eq_true (by first | (with_reducible assumption) | assumption)
                   have q195 : x5_3 < (((rd_T47 l0 x3_1).f1).length : Int) := of_decide_eq_true (by first | (with_reducible assumption) | assumption)
                   obtain ⟨ad195, e195, hx195_0, hx195_1⟩ := at_T26 HR190_1.out x5_3 p195 q195
                   have hw195_1 := hx195_1
                   have hw195_0 := hx195_0
                   obtain rfl : ad194 = ad195 := (by injection e195)
                   replace hx195_0 := (HB.out.cell (World.block_lt_of_cell? w _ hx195_0)).trans hx195_0
                   replace hx195_1 := (HB.out.cell (World.block_lt_of_cell? w _ hx195_1)).trans hx195_1
                   replace p195 := eq_true p195
                   replace q195 := eq_true q195
                   have p196 : 0 ≤ (x5_3 : Int) := of_decide_eq_true (by first | (with_reducible assumption) | assumption)
                   have q196 : x5_3 < (((rd_T47 l0 x3_1).f1).length : Int) := of_decide_eq_true (by first | (with_reducible assumption) | assumption)
                   obtain ⟨ad196, e196, hx196_0, hx196_1⟩ := at_T26 HR190_1.out x5_3 p196 q196
                   have hw196_1 := hx196_1
                   have hw196_0 := hx196_0
                   obtain rfl : ad194 = ad196 := (by injection e196)
                   replace hx196_0 := (HB.out.cell (World.block_lt_of_cell? w _ hx196_0)).trans hx196_0
                   replace hx196_1 := (HB.out.cell (World.block_lt_of_cell? w _ hx196_1)).trans hx196_1
                   replace p196 := eq_true p196
                   replace q196 := eq_true q196
                   have p198 : 0 ≤ (x5_3 : Int) := of_decide_eq_true (by first | (with_reducible assumption) | assumption)
                   have q198 : x5_3 < (((rd_T47 l0 x3_1).f1).length : Int) := of_decide_eq_true (by first | (with_reducible assumption) | assumption)
                   obtain ⟨ad198, e198, hx198_0, hx198_1⟩ := at_T26 HR190_1.out x5_3 p198 q198
                   have hw198_1 := hx198_1
                   have hw198_0 := hx198_0
                   obtain rfl : ad194 = ad198 := (by injection e198)
                   replace hx198_0 := (HB.out.cell (World.block_lt_of_cell? w _ hx198_0)).trans hx198_0
                   replace hx198_1 := (HB.out.cell (World.block_lt_of_cell? w _ hx198_1)).trans hx198_1
                   replace p198 := eq_true p198
                   replace q198 := eq_true q198
                   have p199 : 0 ≤ (x5_3 : Int) := of_decide_eq_true (by first | (with_reducible assumption) | assumption)
                   have q199 : x5_3 < (((rd_T47 l0 x3_1).f1).length : Int) := of_decide_eq_true (by first | (with_reducible assumption) | assumption)
                   obtain ⟨ad199, e199, hx199_0, hx199_1⟩ := at_T26 HR190_1.out x5_3 p199 q199
                   have hw199_1 := hx199_1
                   have hw199_0 := hx199_0
                   obtain rfl : ad194 = ad199 := (by injection e199)
                   replace hx199_0 := (HB.out.cell (World.block_lt_of_cell? w _ hx199_0)).trans hx199_0
                   replace hx199_1 := (HB.out.cell (World.block_lt_of_cell? w _ hx199_1)).trans hx199_1
                   replace p199 := eq_true p199
                   replace q199 := eq_true q199
                   have p200 : 0 ≤ ((ji21) : Int) := of_decide_eq_true (by first | (with_reducible assumption) | assumption)
                   have q200 : (ji21) < (((rd_T47 l0 x3_1).f1).length : Int) := of_decide_eq_true (by first | (with_reducible assumption) | assumption)
                   obtain ⟨ad200, e200, hx200_0, hx200_1⟩ := at_T26 HR190_1.out (ji21) p200 q200
                   have hw200_1 := hx200_1
                   have hw200_0 := hx200_0
                   obtain rfl : ad194 = ad200 := (by injection e200)
                   replace hx200_0 := (HB.out.cell (World.block_lt_of_cell? w _ hx200_0)).trans hx200_0
                   replace hx200_1 := (HB.out.cell (World.block_lt_of_cell? w _ hx200_1)).trans hx200_1
                   replace p200 := eq_true p200
                   replace q200 := eq_true q200
                   refine start_ (n := 46) (S := fun w' => w'.cell? (ad194.add ((x5_3).toNat * 2)) = some (.int .i64 ((rd_T26 ((rd_T47 l0 x3_1).f1) x5_3).f0)) ∧ w'.cell? ⟨(ad194.add ((x5_3).toNat * 2)).block, (ad194.add ((x5_3).toNat * 2)).off + 1, none⟩ = some (.int .u64 ((rd_T26 ((rd_T47 l0 x3_1).f1) x5_3).f1)) ∧ w'.cell? (ad194.add ((x5_3).toNat * 2)) = some (.int .i64 ((rd_T26 ((rd_T47 l0 x3_1).f1) x5_3).f0)) ∧ w'.cell? ⟨(ad194.add ((x5_3).toNat * 2)).block, (ad194.add ((x5_3).toNat * 2)).off + 1, none⟩ = some (.int .u64 ((rd_T26 ((rd_T47 l0 x3_1).f1) x5_3).f1)) ∧ w'.cell? (ad194.add ((x5_3).toNat * 2)) = some (.int .i64 ((rd_T26 ((rd_T47 l0 x3_1).f1) x5_3).f0)) ∧ w'.cell? ⟨(ad194.add ((x5_3).toNat * 2)).block, (ad194.add ((x5_3).toNat * 2)).off + 1, none⟩ = some (.int .u64 ((rd_T26 ((rd_T47 l0 x3_1).f1) x5_3).f1)) ∧ w'.cell? (ad194.add ((x5_3).toNat * 2)) = some (.int .i64 ((rd_T26 ((rd_T47 l0 x3_1).f1) x5_3).f0)) ∧ w'.cell? ⟨(ad194.add ((x5_3).toNat * 2)).block, (ad194.add ((x5_3).toNat * 2)).off + 1, none⟩ = some (.int .u64 ((rd_T26 ((rd_T47 l0 x3_1).f1) x5_3).f1)) ∧ w'.cell? (ad194.add ((x5_3).toNat * 2)) = some (.int .i64 ((rd_T26 ((rd_T47 l0 x3_1).f1) x5_3).f0)) ∧ w'.cell? ⟨(ad194.add ((x5_3).toNat * 2)).block, (ad194.add ((x5_3).toNat * 2)).off + 1, none⟩ = some (.int .u64 ((rd_T26 ((rd_T47 l0 x3_1).f1) x5_3).f1)) ∧ w'.cell? (ad194.add (((ji21)).toNat * 2)) = some (.int .i64 ((rd_T26 ((rd_T47 l0 x3_1).f1) (ji21)).f0)) ∧ w'.cell? ⟨(ad194.add (((ji21)).toNat * 2)).block, (ad194.add (((ji21)).toNat * 2)).off + 1, none⟩ = some (.int .u64 ((rd_T26 ((rd_T47 l0 x3_1).f1) (ji21)).f1))) (ds := []) (bz 46 0) (by kernel_rfl) rfl rfl ⟨((HB.out.cell (World.block_lt_of_cell? w _ hw194_0)).trans hw194_0), ((HB.out.cell (World.block_lt_of_cell? w _ hw194_1)).trans hw194_1), ((HB.out.cell (World.block_lt_of_cell? w _ hw195_0)).trans hw195_0), ((HB.out.cell (World.block_lt_of_cell? w _ hw195_1)).trans hw195_1), ((HB.out.cell (World.block_lt_of_cell? w _ hw196_0)).trans hw196_0), ((HB.out.cell (World.block_lt_of_cell? w _ hw196_1)).trans hw196_1), ((HB.out.cell (World.block_lt_of_cell? w _ hw198_0)).trans hw198_0), ((HB.out.cell (World.block_lt_of_cell? w _ hw198_1)).trans hw198_1), ((HB.out.cell (World.block_lt_of_cell? w _ hw199_0)).trans hw199_0), ((HB.out.cell (World.block_lt_of_cell? w _ hw199_1)).trans hw199_1), ((HB.out.cell (World.block_lt_of_cell? w _ hw200_0)).trans hw200_0), ((HB.out.cell (World.block_lt_of_cell? w _ hw200_1)).trans hw200_1)⟩ (fun hHeld => ?_); refine with_tabW soundingsref05_Right.tab10 soundingsref05_Right.bits10 (fun HT_ HW_ => ?_)
                   generalize wr.drew = w25 at HB hx194_0 hx194_1 hx195_0 hx195_1 hx196_0 hx196_1 hx198_0 hx198_1 hx199_0 hx199_1 hx200_0 hx200_1 hHeld ⊢
                   refine pq 0 44 (bz 46 1) (any_of HT_.out (by kernel_rfl)) ?_
                   refine pq 1 45 (bz 46 3) (any_of HT_.out (by kernel_rfl)) ?_
                   refine pq 2 46 (bz 46 7) (any_of HT_.out (by kernel_rfl)) ?_
                   refine pq 3 47 (bz 46 15) (any_of HT_.out (by kernel_rfl)) ?_
                   refine tq 4 48 (bz 46 31) (take_ofW HT_.out HW_.out (by kernel_rfl)) rfl rfl (by rintro w' ⟨s0, s1, s2, s3, s4, s5, s6, s7, s8, s9, s10, s11⟩; go_simp; with_reducible rfl) hHeld ?_
                   refine pq 5 49 (bz 46 63) (any_of HT_.out (by kernel_rfl)) ?_
                   refine pq 6 50 (bz 46 127) (any_of HT_.out (by kernel_rfl)) ?_
                   refine pq 7 51 (bz 46 255) (any_of HT_.out (by kernel_rfl)) ?_
                   refine pq 8 52 (bz 46 511) (any_of HT_.out (by kernel_rfl)) ?_
                   refine pq 9 53 (bz 46 1023) (any_of HT_.out (by kernel_rfl)) ?_
                   refine pq 10 54 (bz 46 2047) (any_of HT_.out (by kernel_rfl)) ?_
                   refine tq 11 55 (bz 46 4095) (take_ofW HT_.out HW_.out (by kernel_rfl)) rfl rfl (by rintro w' ⟨s0, s1, s2, s3, s4, s5, s6, s7, s8, s9, s10, s11⟩; go_simp; with_reducible rfl) hHeld ?_
                   refine pq 12 56 (bz 46 8191) (any_of HT_.out (by kernel_rfl)) ?_
                   refine pq 13 57 (bz 46 16383) (any_of HT_.out (by kernel_rfl)) ?_
                   refine pq 14 58 (bz 46 32767) (any_of HT_.out (by kernel_rfl)) ?_
                   refine pq 15 59 (bz 46 65535) (any_of HT_.out (by kernel_rfl)) ?_
                   refine pq 16 60 (bz 46 131071) (any_of HT_.out (by kernel_rfl)) ?_
                   refine pq 17 61 (bz 46 262143) (any_of HT_.out (by kernel_rfl)) ?_
                   refine pq 18 62 (bz 46 524287) (any_of HT_.out (by kernel_rfl)) ?_
                   refine pq 21 65 (bz 46 2621439) (any_of HT_.out (by kernel_rfl)) ?_
                   refine pq 22 66 (bz 46 6815743) (any_of HT_.out (by kernel_rfl)) ?_
                   refine pq 23 67 (bz 46 15204351) (any_of HT_.out (by kernel_rfl)) ?_
                   refine pq 24 68 (bz 46 31981567) (any_of HT_.out (by kernel_rfl)) ?_
                   refine tq 19 63 (bz 46 32505855) (take_ofW HT_.out HW_.out (by kernel_rfl)) rfl rfl (by rintro w' ⟨s0, s1, s2, s3, s4, s5, s6, s7, s8, s9, s10, s11⟩; go_simp; with_reducible rfl) hHeld ?_
                   refine tq 25 69 (bz 46 66060287) (take_ofW HT_.out HW_.out (by kernel_rfl)) rfl rfl (by rintro w' ⟨s0, s1, s2, s3, s4, s5, s6, s7, s8, s9, s10, s11⟩; go_simp; with_reducible rfl) hHeld ?_
                   refine one_ (i := 20) (N := some 64) (bz 46 67108863) rfl rfl (one_of HT_.out (by kernel_rfl)) (by decide) (fun K hK => ?_)
                   refine goes_ Tryz.func24 (by kernel_rfl) rfl #[.int .u64 ((rd_T26 ((rd_T47 l0 x3_1).f1) x5_3).f1)] (by rfl) rfl rfl (by (try simp only [List.map_toArray, List.map_cons, List.map_nil]); first | done | rfl | (simp only [List.length_drop, List.length_take]; rfl)) ?_
                   with_reducible refine (soundingsref04_Norm.calls ((rd_T26 ((rd_T47 l0 x3_1).f1) x5_3).f1) t197 _ A18.out).mono ?_
                   rintro e w' ⟨rfl, ⟨nd, rfl⟩⟩
                   refine ⟨_, rfl, ?_⟩
                   refine hK.out _ _ ⟨((HB.out.cell (World.block_lt_of_cell? w _ hw194_0)).trans hw194_0), ((HB.out.cell (World.block_lt_of_cell? w _ hw194_1)).trans hw194_1), ((HB.out.cell (World.block_lt_of_cell? w _ hw195_0)).trans hw195_0), ((HB.out.cell (World.block_lt_of_cell? w _ hw195_1)).trans hw195_1), ((HB.out.cell (World.block_lt_of_cell? w _ hw196_0)).trans hw196_0), ((HB.out.cell (World.block_lt_of_cell? w _ hw196_1)).trans hw196_1), ((HB.out.cell (World.block_lt_of_cell? w _ hw198_0)).trans hw198_0), ((HB.out.cell (World.block_lt_of_cell? w _ hw198_1)).trans hw198_1), ((HB.out.cell (World.block_lt_of_cell? w _ hw199_0)).trans hw199_0), ((HB.out.cell (World.block_lt_of_cell? w _ hw199_1)).trans hw199_1), ((HB.out.cell (World.block_lt_of_cell? w _ hw200_0)).trans hw200_0), ((HB.out.cell (World.block_lt_of_cell? w _ hw200_1)).trans hw200_1)⟩ (fun hHeld => ?_)
                   clear hK K
                   refine norm_ (show Act.put _ (some 64) _ = _ by simp only [pu, s0, s1, i64_w, i32_w]; rfl) ?_
                   refine pq 26 70 (bz 46 134217727) (any_of HT_.out (by kernel_rfl)) ?_
                   refine pq 27 71 (bz 46 268435455) (any_of HT_.out (by kernel_rfl)) ?_
                   refine pq 28 72 (bz 46 536870911) (any_of HT_.out (by kernel_rfl)) ?_
                   refine pq 29 73 (bz 46 1073741823) (any_of HT_.out (by kernel_rfl)) ?_
                   refine pq 30 74 (bz 46 2147483647) (any_of HT_.out (by kernel_rfl)) ?_
                   refine pq 31 75 (bz 46 4294967295) (any_of HT_.out (by kernel_rfl)) ?_
                   refine pq 32 76 (bz 46 8589934591) (any_of HT_.out (by kernel_rfl)) ?_
                   refine pq 33 77 (bz 46 17179869183) (any_of HT_.out (by kernel_rfl)) ?_
                   refine pq 34 78 (bz 46 34359738367) (any_of HT_.out (by kernel_rfl)) ?_
                   refine pq 35 79 (bz 46 68719476735) (any_of HT_.out (by kernel_rfl)) ?_
                   refine pq 37 81 (bz 46 206158430207) (any_of HT_.out (by kernel_rfl)) ?_
                   refine pq 38 82 (bz 46 481036337151) (any_of HT_.out (by kernel_rfl)) ?_
                   refine pq 39 83 (bz 46 1030792151039) (any_of HT_.out (by kernel_rfl)) ?_
                   refine pq 40 84 (bz 46 2130303778815) (any_of HT_.out (by kernel_rfl)) ?_
                   refine pq 41 85 (bz 46 4329327034367) (any_of HT_.out (by kernel_rfl)) ?_
                   refine tq 36 80 (bz 46 4398046511103) (take_ofW HT_.out HW_.out (by kernel_rfl)) rfl rfl (by rintro w' ⟨s0, s1, s2, s3, s4, s5, s6, s7, s8, s9, s10, s11⟩; go_simp; with_reducible rfl) hHeld ?_
                   refine tq 42 86 (bz 46 8796093022207) (take_ofW HT_.out HW_.out (by kernel_rfl)) rfl rfl (by rintro w' ⟨s0, s1, s2, s3, s4, s5, s6, s7, s8, s9, s10, s11⟩; go_simp; with_reducible rfl) hHeld ?_
                   refine pq 43 87 (bz 46 17592186044415) (any_of HT_.out (by kernel_rfl)) ?_
                   refine pq 44 88 (bz 46 35184372088831) (any_of HT_.out (by kernel_rfl)) ?_
                   refine pq 45 89 (bz 46 70368744177663) (any_of HT_.out (by kernel_rfl)) ?_
                   refine done_ (done_of HT_.out (by kernel_rfl)) ?_
                   try go_wp2
                   go_ret
                   exact ⟨by first | rfl | (simp [errW_none, errW_some] <;> rfl) | (simp only [← hji21]; first | rfl | (simp [errW_none, errW_some] <;> rfl)) | (simp [*, errW_none, errW_some] <;> rfl), by repeat (first | (with_reducible first | exact HB.out | apply below_alloc | apply pw_below_drewN | apply below_drew1) | exact HB.out)⟩
                  ·rw [if_neg c24] at H
                   have c24b0 : decide (((rd_T26 ((rd_T47 l0 x3_1).f1) x5_3).f0) ≤ ((rd_T26 ((rd_T47 l0 x3_1).f1) (ji21)).f0)) = false := decide_eq_false c24
                   clear c24
                   have H' := Aside0.mk H
                   clear H
                   try go_wp2
                   have n0_ := Aside0.mk (below_drew1 HB.out)
                   clear HB
                   have HB := n0_
                   clear n0_
                   have p194 : 0 ≤ (x5_3 : Int) := of_decide_eq_true (by first | (with_reducible assumption) | assumption)
                   have q194 : x5_3 < (((rd_T47 l0 x3_1).f1).length : Int) := of_decide_eq_true (by first | (with_reducible assumption) | assumption)
                   obtain ⟨ad194, e194, hx194_0, hx194_1⟩ := at_T26 HR190_1.out x5_3 p194 q194
                   have hw194_1 := hx194_1
                   have hw194_0 := hx194_0
                   cases e194
                   replace hx194_0 := (HB.out.cell (World.block_lt_of_cell? w _ hx194_0)).trans hx194_0
                   replace hx194_1 := (HB.out.cell (World.block_lt_of_cell? w _ hx194_1)).trans hx194_1
                   replace p194 := eq_true p194
                   replace q194 := eq_true q194
                   have p195 : 0 ≤ (x5_3 : Int) := of_decide_eq_true (by first | (with_reducible assumption) | assumption)
                   have q195 : x5_3 < (((rd_T47 l0 x3_1).f1).length : Int) := of_decide_eq_true (by first | (with_reducible assumption) | assumption)
                   obtain ⟨ad195, e195, hx195_0, hx195_1⟩ := at_T26 HR190_1.out x5_3 p195 q195
                   have hw195_1 := hx195_1
                   have hw195_0 := hx195_0
                   obtain rfl : ad194 = ad195 := (by injection e195)
                   replace hx195_0 := (HB.out.cell (World.block_lt_of_cell? w _ hx195_0)).trans hx195_0
                   replace hx195_1 := (HB.out.cell (World.block_lt_of_cell? w _ hx195_1)).trans hx195_1
                   replace p195 := eq_true p195
                   replace q195 := eq_true q195
                   have p196 : 0 ≤ (x5_3 : Int) := of_decide_eq_true (by first | (with_reducible assumption) | assumption)
                   have q196 : x5_3 < (((rd_T47 l0 x3_1).f1).length : Int) := of_decide_eq_true (by first | (with_reducible assumption) | assumption)
                   obtain ⟨ad196, e196, hx196_0, hx196_1⟩ := at_T26 HR190_1.out x5_3 p196 q196
                   have hw196_1 := hx196_1
                   have hw196_0 := hx196_0
                   obtain rfl : ad194 = ad196 := (by injection e196)
                   replace hx196_0 := (HB.out.cell (World.block_lt_of_cell? w _ hx196_0)).trans hx196_0
                   replace hx196_1 := (HB.out.cell (World.block_lt_of_cell? w _ hx196_1)).trans hx196_1
                   replace p196 := eq_true p196
                   replace q196 := eq_true q196
                   have p198 : 0 ≤ (x5_3 : Int) := of_decide_eq_true (by first | (with_reducible assumption) | assumption)
                   have q198 : x5_3 < (((rd_T47 l0 x3_1).f1).length : Int) := of_decide_eq_true (by first | (with_reducible assumption) | assumption)
                   obtain ⟨ad198, e198, hx198_0, hx198_1⟩ := at_T26 HR190_1.out x5_3 p198 q198
                   have hw198_1 := hx198_1
                   have hw198_0 := hx198_0
                   obtain rfl : ad194 = ad198 := (by injection e198)
                   replace hx198_0 := (HB.out.cell (World.block_lt_of_cell? w _ hx198_0)).trans hx198_0
                   replace hx198_1 := (HB.out.cell (World.block_lt_of_cell? w _ hx198_1)).trans hx198_1
                   replace p198 := eq_true p198
                   replace q198 := eq_true q198
                   have p199 : 0 ≤ (x5_3 : Int) := of_decide_eq_true (by first | (with_reducible assumption) | assumption)
                   have q199 : x5_3 < (((rd_T47 l0 x3_1).f1).length : Int) := of_decide_eq_true (by first | (with_reducible assumption) | assumption)
                   obtain ⟨ad199, e199, hx199_0, hx199_1⟩ := at_T26 HR190_1.out x5_3 p199 q199
                   have hw199_1 := hx199_1
                   have hw199_0 := hx199_0
                   obtain rfl : ad194 = ad199 := (by injection e199)
                   replace hx199_0 := (HB.out.cell (World.block_lt_of_cell? w _ hx199_0)).trans hx199_0
                   replace hx199_1 := (HB.out.cell (World.block_lt_of_cell? w _ hx199_1)).trans hx199_1
                   replace p199 := eq_true p199
                   replace q199 := eq_true q199
                   have p200 : 0 ≤ ((ji21) : Int) := of_decide_eq_true (by first | (with_reducible assumption) | assumption)
                   have q200 : (ji21) < (((rd_T47 l0 x3_1).f1).length : Int) := of_decide_eq_true (by first | (with_reducible assumption) | assumption)
                   obtain ⟨ad200, e200, hx200_0, hx200_1⟩ := at_T26 HR190_1.out (ji21) p200 q200
                   have hw200_1 := hx200_1
                   have hw200_0 := hx200_0
                   obtain rfl : ad194 = ad200 := (by injection e200)
                   replace hx200_0 := (HB.out.cell (World.block_lt_of_cell? w _ hx200_0)).trans hx200_0
                   replace hx200_1 := (HB.out.cell (World.block_lt_of_cell? w _ hx200_1)).trans hx200_1
                   replace p200 := eq_true p200
                   replace q200 := eq_true q200
                   refine start_ (n := 46) (S := fun w' => w'.cell? (ad194.add ((x5_3).toNat * 2)) = some (.int .i64 ((rd_T26 ((rd_T47 l0 x3_1).f1) x5_3).f0)) ∧ w'.cell? ⟨(ad194.add ((x5_3).toNat * 2)).block, (ad194.add ((x5_3).toNat * 2)).off + 1, none⟩ = some (.int .u64 ((rd_T26 ((rd_T47 l0 x3_1).f1) x5_3).f1)) ∧ w'.cell? (ad194.add ((x5_3).toNat * 2)) = some (.int .i64 ((rd_T26 ((rd_T47 l0 x3_1).f1) x5_3).f0)) ∧ w'.cell? ⟨(ad194.add ((x5_3).toNat * 2)).block, (ad194.add ((x5_3).toNat * 2)).off + 1, none⟩ = some (.int .u64 ((rd_T26 ((rd_T47 l0 x3_1).f1) x5_3).f1)) ∧ w'.cell? (ad194.add ((x5_3).toNat * 2)) = some (.int .i64 ((rd_T26 ((rd_T47 l0 x3_1).f1) x5_3).f0)) ∧ w'.cell? ⟨(ad194.add ((x5_3).toNat * 2)).block, (ad194.add ((x5_3).toNat * 2)).off + 1, none⟩ = some (.int .u64 ((rd_T26 ((rd_T47 l0 x3_1).f1) x5_3).f1)) ∧ w'.cell? (ad194.add ((x5_3).toNat * 2)) = some (.int .i64 ((rd_T26 ((rd_T47 l0 x3_1).f1) x5_3).f0)) ∧ w'.cell? ⟨(ad194.add ((x5_3).toNat * 2)).block, (ad194.add ((x5_3).toNat * 2)).off + 1, none⟩ = some (.int .u64 ((rd_T26 ((rd_T47 l0 x3_1).f1) x5_3).f1)) ∧ w'.cell? (ad194.add ((x5_3).toNat * 2)) = some (.int .i64 ((rd_T26 ((rd_T47 l0 x3_1).f1) x5_3).f0)) ∧ w'.cell? ⟨(ad194.add ((x5_3).toNat * 2)).block, (ad194.add ((x5_3).toNat * 2)).off + 1, none⟩ = some (.int .u64 ((rd_T26 ((rd_T47 l0 x3_1).f1) x5_3).f1)) ∧ w'.cell? (ad194.add (((ji21)).toNat * 2)) = some (.int .i64 ((rd_T26 ((rd_T47 l0 x3_1).f1) (ji21)).f0)) ∧ w'.cell? ⟨(ad194.add (((ji21)).toNat * 2)).block, (ad194.add (((ji21)).toNat * 2)).off + 1, none⟩ = some (.int .u64 ((rd_T26 ((rd_T47 l0 x3_1).f1) (ji21)).f1))) (ds := []) (bz 46 0) (by kernel_rfl) rfl rfl ⟨((HB.out.cell (World.block_lt_of_cell? w _ hw194_0)).trans hw194_0), ((HB.out.cell (World.block_lt_of_cell? w _ hw194_1)).trans hw194_1), ((HB.out.cell (World.block_lt_of_cell? w _ hw195_0)).trans hw195_0), ((HB.out.cell (World.block_lt_of_cell? w _ hw195_1)).trans hw195_1), ((HB.out.cell (World.block_lt_of_cell? w _ hw196_0)).trans hw196_0), ((HB.out.cell (World.block_lt_of_cell? w _ hw196_1)).trans hw196_1), ((HB.out.cell (World.block_lt_of_cell? w _ hw198_0)).trans hw198_0), ((HB.out.cell (World.block_lt_of_cell? w _ hw198_1)).trans hw198_1), ((HB.out.cell (World.block_lt_of_cell? w _ hw199_0)).trans hw199_0), ((HB.out.cell (World.block_lt_of_cell? w _ hw199_1)).trans hw199_1), ((HB.out.cell (World.block_lt_of_cell? w _ hw200_0)).trans hw200_0), ((HB.out.cell (World.block_lt_of_cell? w _ hw200_1)).trans hw200_1)⟩ (fun hHeld => ?_); refine with_tabW soundingsref05_Right.tab10 soundingsref05_Right.bits10 (fun HT_ HW_ => ?_)
                   generalize wr.drew = w26 at HB hx194_0 hx194_1 hx195_0 hx195_1 hx196_0 hx196_1 hx198_0 hx198_1 hx199_0 hx199_1 hx200_0 hx200_1 hHeld ⊢
                   refine pq 0 44 (bz 46 1) (any_of HT_.out (by kernel_rfl)) ?_
                   refine pq 1 45 (bz 46 3) (any_of HT_.out (by kernel_rfl)) ?_
                   refine pq 2 46 (bz 46 7) (any_of HT_.out (by kernel_rfl)) ?_
                   refine pq 3 47 (bz 46 15) (any_of HT_.out (by kernel_rfl)) ?_
                   refine tq 4 48 (bz 46 31) (take_ofW HT_.out HW_.out (by kernel_rfl)) rfl rfl (by rintro w' ⟨s0, s1, s2, s3, s4, s5, s6, s7, s8, s9, s10, s11⟩; go_simp; with_reducible rfl) hHeld ?_
                   refine pq 5 49 (bz 46 63) (any_of HT_.out (by kernel_rfl)) ?_
                   refine pq 6 50 (bz 46 127) (any_of HT_.out (by kernel_rfl)) ?_
                   refine pq 7 51 (bz 46 255) (any_of HT_.out (by kernel_rfl)) ?_
                   refine pq 8 52 (bz 46 511) (any_of HT_.out (by kernel_rfl)) ?_
                   refine pq 9 53 (bz 46 1023) (any_of HT_.out (by kernel_rfl)) ?_
                   refine pq 10 54 (bz 46 2047) (any_of HT_.out (by kernel_rfl)) ?_
                   refine tq 11 55 (bz 46 4095) (take_ofW HT_.out HW_.out (by kernel_rfl)) rfl rfl (by rintro w' ⟨s0, s1, s2, s3, s4, s5, s6, s7, s8, s9, s10, s11⟩; go_simp; with_reducible rfl) hHeld ?_
                   refine pq 12 56 (bz 46 8191) (any_of HT_.out (by kernel_rfl)) ?_
                   refine pq 13 57 (bz 46 16383) (any_of HT_.out (by kernel_rfl)) ?_
                   refine pq 14 58 (bz 46 32767) (any_of HT_.out (by kernel_rfl)) ?_
                   refine pq 15 59 (bz 46 65535) (any_of HT_.out (by kernel_rfl)) ?_
                   refine pq 16 60 (bz 46 131071) (any_of HT_.out (by kernel_rfl)) ?_
                   refine pq 17 61 (bz 46 262143) (any_of HT_.out (by kernel_rfl)) ?_
                   refine pq 18 62 (bz 46 524287) (any_of HT_.out (by kernel_rfl)) ?_
                   refine pq 21 65 (bz 46 2621439) (any_of HT_.out (by kernel_rfl)) ?_
                   refine pq 22 66 (bz 46 6815743) (any_of HT_.out (by kernel_rfl)) ?_
                   refine pq 23 67 (bz 46 15204351) (any_of HT_.out (by kernel_rfl)) ?_
                   refine pq 24 68 (bz 46 31981567) (any_of HT_.out (by kernel_rfl)) ?_
                   refine tq 19 63 (bz 46 32505855) (take_ofW HT_.out HW_.out (by kernel_rfl)) rfl rfl (by rintro w' ⟨s0, s1, s2, s3, s4, s5, s6, s7, s8, s9, s10, s11⟩; go_simp; with_reducible rfl) hHeld ?_
                   refine tq 25 69 (bz 46 66060287) (take_ofW HT_.out HW_.out (by kernel_rfl)) rfl rfl (by rintro w' ⟨s0, s1, s2, s3, s4, s5, s6, s7, s8, s9, s10, s11⟩; go_simp; with_reducible rfl) hHeld ?_
                   refine one_ (i := 20) (N := some 64) (bz 46 67108863) rfl rfl (one_of HT_.out (by kernel_rfl)) (by decide) (fun K hK => ?_)
                   refine goes_ Tryz.func24 (by kernel_rfl) rfl #[.int .u64 ((rd_T26 ((rd_T47 l0 x3_1).f1) x5_3).f1)] (by rfl) rfl rfl (by (try simp only [List.map_toArray, List.map_cons, List.map_nil]); first | done | rfl | (simp only [List.length_drop, List.length_take]; rfl)) ?_
                   with_reducible refine (soundingsref04_Norm.calls ((rd_T26 ((rd_T47 l0 x3_1).f1) x5_3).f1) t197 _ A18.out).mono ?_
                   rintro e w' ⟨rfl, ⟨nd, rfl⟩⟩
                   refine ⟨_, rfl, ?_⟩
                   refine hK.out _ _ ⟨((HB.out.cell (World.block_lt_of_cell? w _ hw194_0)).trans hw194_0), ((HB.out.cell (World.block_lt_of_cell? w _ hw194_1)).trans hw194_1), ((HB.out.cell (World.block_lt_of_cell? w _ hw195_0)).trans hw195_0), ((HB.out.cell (World.block_lt_of_cell? w _ hw195_1)).trans hw195_1), ((HB.out.cell (World.block_lt_of_cell? w _ hw196_0)).trans hw196_0), ((HB.out.cell (World.block_lt_of_cell? w _ hw196_1)).trans hw196_1), ((HB.out.cell (World.block_lt_of_cell? w _ hw198_0)).trans hw198_0), ((HB.out.cell (World.block_lt_of_cell? w _ hw198_1)).trans hw198_1), ((HB.out.cell (World.block_lt_of_cell? w _ hw199_0)).trans hw199_0), ((HB.out.cell (World.block_lt_of_cell? w _ hw199_1)).trans hw199_1), ((HB.out.cell (World.block_lt_of_cell? w _ hw200_0)).trans hw200_0), ((HB.out.cell (World.block_lt_of_cell? w _ hw200_1)).trans hw200_1)⟩ (fun hHeld => ?_)
                   clear hK K
                   refine norm_ (show Act.put _ (some 64) _ = _ by simp only [pu, s0, s1, i64_w, i32_w]; rfl) ?_
                   refine pq 26 70 (bz 46 134217727) (any_of HT_.out (by kernel_rfl)) ?_
                   refine pq 27 71 (bz 46 268435455) (any_of HT_.out (by kernel_rfl)) ?_
                   refine pq 28 72 (bz 46 536870911) (any_of HT_.out (by kernel_rfl)) ?_
                   refine pq 29 73 (bz 46 1073741823) (any_of HT_.out (by kernel_rfl)) ?_
                   refine pq 30 74 (bz 46 2147483647) (any_of HT_.out (by kernel_rfl)) ?_
                   refine pq 31 75 (bz 46 4294967295) (any_of HT_.out (by kernel_rfl)) ?_
                   refine pq 32 76 (bz 46 8589934591) (any_of HT_.out (by kernel_rfl)) ?_
                   refine pq 33 77 (bz 46 17179869183) (any_of HT_.out (by kernel_rfl)) ?_
                   refine pq 34 78 (bz 46 34359738367) (any_of HT_.out (by kernel_rfl)) ?_
                   refine pq 35 79 (bz 46 68719476735) (any_of HT_.out (by kernel_rfl)) ?_
                   refine pq 37 81 (bz 46 206158430207) (any_of HT_.out (by kernel_rfl)) ?_
                   refine pq 38 82 (bz 46 481036337151) (any_of HT_.out (by kernel_rfl)) ?_
                   refine pq 39 83 (bz 46 1030792151039) (any_of HT_.out (by kernel_rfl)) ?_
                   refine pq 40 84 (bz 46 2130303778815) (any_of HT_.out (by kernel_rfl)) ?_
                   refine pq 41 85 (bz 46 4329327034367) (any_of HT_.out (by kernel_rfl)) ?_
                   refine tq 36 80 (bz 46 4398046511103) (take_ofW HT_.out HW_.out (by kernel_rfl)) rfl rfl (by rintro w' ⟨s0, s1, s2, s3, s4, s5, s6, s7, s8, s9, s10, s11⟩; go_simp; with_reducible rfl) hHeld ?_
                   refine tq 42 86 (bz 46 8796093022207) (take_ofW HT_.out HW_.out (by kernel_rfl)) rfl rfl (by rintro w' ⟨s0, s1, s2, s3, s4, s5, s6, s7, s8, s9, s10, s11⟩; go_simp; with_reducible rfl) hHeld ?_
                   refine pq 43 87 (bz 46 17592186044415) (any_of HT_.out (by kernel_rfl)) ?_
                   refine pq 44 88 (bz 46 35184372088831) (any_of HT_.out (by kernel_rfl)) ?_
                   refine pq 45 89 (bz 46 70368744177663) (any_of HT_.out (by kernel_rfl)) ?_
                   refine done_ (done_of HT_.out (by kernel_rfl)) ?_
                   try go_wp2
                   go_roundg k3
                   case measure => have := HK1.out; have := HJ3.out; have := HK3.out; omega
                   case rel => exact ⟨(wrap64 (x5_3 + 1)), (by first | rfl | (simp; done) | (simp [*]; done)), H', ⟨by have := HK1.out; have := HJ3.out; have := HK3.out; omega⟩, ⟨by repeat (first | (with_reducible first | exact HB.out | apply below_alloc | apply pw_below_drewN | apply below_drew1) | exact HB.out)⟩⟩
                 ·rw [if_neg c23] at H
                  exact absurd H (by simp)
                ·rw [if_neg c22] at H
                 exact absurd H (by simp)
               ·rw [if_neg c20] at H
                have c20b0 : decide (0 < x5_3) = false := decide_eq_false c20
                clear c20
                have H' := Aside0.mk H
                clear H
                try go_wp2
                have n0_ := Aside0.mk (below_drew1 HB.out)
                clear HB
                have HB := n0_
                clear n0_
                have p194 : 0 ≤ (x5_3 : Int) := of_decide_eq_true (by first | (with_reducible assumption) | assumption)
                have q194 : x5_3 < (((rd_T47 l0 x3_1).f1).length : Int) := of_decide_eq_true (by first | (with_reducible assumption) | assumption)
                obtain ⟨ad194, e194, hx194_0, hx194_1⟩ := at_T26 HR190_1.out x5_3 p194 q194
                have hw194_1 := hx194_1
                have hw194_0 := hx194_0
                cases e194
                replace hx194_0 := (HB.out.cell (World.block_lt_of_cell? w _ hx194_0)).trans hx194_0
                replace hx194_1 := (HB.out.cell (World.block_lt_of_cell? w _ hx194_1)).trans hx194_1
                replace p194 := eq_true p194
                replace q194 := eq_true q194
                have p195 : 0 ≤ (x5_3 : Int) := of_decide_eq_true (by first | (with_reducible assumption) | assumption)
                have q195 : x5_3 < (((rd_T47 l0 x3_1).f1).length : Int) := of_decide_eq_true (by first | (with_reducible assumption) | assumption)
                obtain ⟨ad195, e195, hx195_0, hx195_1⟩ := at_T26 HR190_1.out x5_3 p195 q195
                have hw195_1 := hx195_1
                have hw195_0 := hx195_0
                obtain rfl : ad194 = ad195 := (by injection e195)
                replace hx195_0 := (HB.out.cell (World.block_lt_of_cell? w _ hx195_0)).trans hx195_0
                replace hx195_1 := (HB.out.cell (World.block_lt_of_cell? w _ hx195_1)).trans hx195_1
                replace p195 := eq_true p195
                replace q195 := eq_true q195
                have p196 : 0 ≤ (x5_3 : Int) := of_decide_eq_true (by first | (with_reducible assumption) | assumption)
                have q196 : x5_3 < (((rd_T47 l0 x3_1).f1).length : Int) := of_decide_eq_true (by first | (with_reducible assumption) | assumption)
                obtain ⟨ad196, e196, hx196_0, hx196_1⟩ := at_T26 HR190_1.out x5_3 p196 q196
                have hw196_1 := hx196_1
                have hw196_0 := hx196_0
                obtain rfl : ad194 = ad196 := (by injection e196)
                replace hx196_0 := (HB.out.cell (World.block_lt_of_cell? w _ hx196_0)).trans hx196_0
                replace hx196_1 := (HB.out.cell (World.block_lt_of_cell? w _ hx196_1)).trans hx196_1
                replace p196 := eq_true p196
                replace q196 := eq_true q196
                have p198 : 0 ≤ (x5_3 : Int) := of_decide_eq_true (by first | (with_reducible assumption) | assumption)
                have q198 : x5_3 < (((rd_T47 l0 x3_1).f1).length : Int) := of_decide_eq_true (by first | (with_reducible assumption) | assumption)
                obtain ⟨ad198, e198, hx198_0, hx198_1⟩ := at_T26 HR190_1.out x5_3 p198 q198
                have hw198_1 := hx198_1
                have hw198_0 := hx198_0
                obtain rfl : ad194 = ad198 := (by injection e198)
                replace hx198_0 := (HB.out.cell (World.block_lt_of_cell? w _ hx198_0)).trans hx198_0
                replace hx198_1 := (HB.out.cell (World.block_lt_of_cell? w _ hx198_1)).trans hx198_1
                replace p198 := eq_true p198
                replace q198 := eq_true q198
                refine start_ (n := 46) (S := fun w' => w'.cell? (ad194.add ((x5_3).toNat * 2)) = some (.int .i64 ((rd_T26 ((rd_T47 l0 x3_1).f1) x5_3).f0)) ∧ w'.cell? ⟨(ad194.add ((x5_3).toNat * 2)).block, (ad194.add ((x5_3).toNat * 2)).off + 1, none⟩ = some (.int .u64 ((rd_T26 ((rd_T47 l0 x3_1).f1) x5_3).f1)) ∧ w'.cell? (ad194.add ((x5_3).toNat * 2)) = some (.int .i64 ((rd_T26 ((rd_T47 l0 x3_1).f1) x5_3).f0)) ∧ w'.cell? ⟨(ad194.add ((x5_3).toNat * 2)).block, (ad194.add ((x5_3).toNat * 2)).off + 1, none⟩ = some (.int .u64 ((rd_T26 ((rd_T47 l0 x3_1).f1) x5_3).f1)) ∧ w'.cell? (ad194.add ((x5_3).toNat * 2)) = some (.int .i64 ((rd_T26 ((rd_T47 l0 x3_1).f1) x5_3).f0)) ∧ w'.cell? ⟨(ad194.add ((x5_3).toNat * 2)).block, (ad194.add ((x5_3).toNat * 2)).off + 1, none⟩ = some (.int .u64 ((rd_T26 ((rd_T47 l0 x3_1).f1) x5_3).f1)) ∧ w'.cell? (ad194.add ((x5_3).toNat * 2)) = some (.int .i64 ((rd_T26 ((rd_T47 l0 x3_1).f1) x5_3).f0)) ∧ w'.cell? ⟨(ad194.add ((x5_3).toNat * 2)).block, (ad194.add ((x5_3).toNat * 2)).off + 1, none⟩ = some (.int .u64 ((rd_T26 ((rd_T47 l0 x3_1).f1) x5_3).f1))) (ds := []) (bz 46 0) (by kernel_rfl) rfl rfl ⟨((HB.out.cell (World.block_lt_of_cell? w _ hw194_0)).trans hw194_0), ((HB.out.cell (World.block_lt_of_cell? w _ hw194_1)).trans hw194_1), ((HB.out.cell (World.block_lt_of_cell? w _ hw195_0)).trans hw195_0), ((HB.out.cell (World.block_lt_of_cell? w _ hw195_1)).trans hw195_1), ((HB.out.cell (World.block_lt_of_cell? w _ hw196_0)).trans hw196_0), ((HB.out.cell (World.block_lt_of_cell? w _ hw196_1)).trans hw196_1), ((HB.out.cell (World.block_lt_of_cell? w _ hw198_0)).trans hw198_0), ((HB.out.cell (World.block_lt_of_cell? w _ hw198_1)).trans hw198_1)⟩ (fun hHeld => ?_); refine with_tabW soundingsref05_Right.tab10 soundingsref05_Right.bits10 (fun HT_ HW_ => ?_)
                generalize wr.drew = w27 at HB hx194_0 hx194_1 hx195_0 hx195_1 hx196_0 hx196_1 hx198_0 hx198_1 hHeld ⊢
                refine pq 0 44 (bz 46 1) (any_of HT_.out (by kernel_rfl)) ?_
                refine pq 1 45 (bz 46 3) (any_of HT_.out (by kernel_rfl)) ?_
                refine pq 2 46 (bz 46 7) (any_of HT_.out (by kernel_rfl)) ?_
                refine pq 3 47 (bz 46 15) (any_of HT_.out (by kernel_rfl)) ?_
                refine tq 4 48 (bz 46 31) (take_ofW HT_.out HW_.out (by kernel_rfl)) rfl rfl (by rintro w' ⟨s0, s1, s2, s3, s4, s5, s6, s7⟩; go_simp; with_reducible rfl) hHeld ?_
                refine pq 5 49 (bz 46 63) (any_of HT_.out (by kernel_rfl)) ?_
                refine pq 6 50 (bz 46 127) (any_of HT_.out (by kernel_rfl)) ?_
                refine pq 7 51 (bz 46 255) (any_of HT_.out (by kernel_rfl)) ?_
                refine pq 8 52 (bz 46 511) (any_of HT_.out (by kernel_rfl)) ?_
                refine pq 9 53 (bz 46 1023) (any_of HT_.out (by kernel_rfl)) ?_
                refine pq 10 54 (bz 46 2047) (any_of HT_.out (by kernel_rfl)) ?_
                refine tq 11 55 (bz 46 4095) (take_ofW HT_.out HW_.out (by kernel_rfl)) rfl rfl (by rintro w' ⟨s0, s1, s2, s3, s4, s5, s6, s7⟩; go_simp; with_reducible rfl) hHeld ?_
                refine pq 12 56 (bz 46 8191) (any_of HT_.out (by kernel_rfl)) ?_
                refine pq 13 57 (bz 46 16383) (any_of HT_.out (by kernel_rfl)) ?_
                refine pq 14 58 (bz 46 32767) (any_of HT_.out (by kernel_rfl)) ?_
                refine pq 15 59 (bz 46 65535) (any_of HT_.out (by kernel_rfl)) ?_
                refine pq 16 60 (bz 46 131071) (any_of HT_.out (by kernel_rfl)) ?_
                refine pq 17 61 (bz 46 262143) (any_of HT_.out (by kernel_rfl)) ?_
                refine pq 18 62 (bz 46 524287) (any_of HT_.out (by kernel_rfl)) ?_
                refine pq 21 65 (bz 46 2621439) (any_of HT_.out (by kernel_rfl)) ?_
                refine pq 22 66 (bz 46 6815743) (any_of HT_.out (by kernel_rfl)) ?_
                refine pq 23 67 (bz 46 15204351) (any_of HT_.out (by kernel_rfl)) ?_
                refine pq 24 68 (bz 46 31981567) (any_of HT_.out (by kernel_rfl)) ?_
                refine tq 19 63 (bz 46 32505855) (take_ofW HT_.out HW_.out (by kernel_rfl)) rfl rfl (by rintro w' ⟨s0, s1, s2, s3, s4, s5, s6, s7⟩; go_simp; with_reducible rfl) hHeld ?_
                refine tq 25 69 (bz 46 66060287) (take_ofW HT_.out HW_.out (by kernel_rfl)) rfl rfl (by rintro w' ⟨s0, s1, s2, s3, s4, s5, s6, s7⟩; go_simp; with_reducible rfl) hHeld ?_
                refine one_ (i := 20) (N := some 64) (bz 46 67108863) rfl rfl (one_of HT_.out (by kernel_rfl)) (by decide) (fun K hK => ?_)
                refine goes_ Tryz.func24 (by kernel_rfl) rfl #[.int .u64 ((rd_T26 ((rd_T47 l0 x3_1).f1) x5_3).f1)] (by rfl) rfl rfl (by (try simp only [List.map_toArray, List.map_cons, List.map_nil]); first | done | rfl | (simp only [List.length_drop, List.length_take]; rfl)) ?_
                with_reducible refine (soundingsref04_Norm.calls ((rd_T26 ((rd_T47 l0 x3_1).f1) x5_3).f1) t197 _ A18.out).mono ?_
                rintro e w' ⟨rfl, ⟨nd, rfl⟩⟩
                refine ⟨_, rfl, ?_⟩
                refine hK.out _ _ ⟨((HB.out.cell (World.block_lt_of_cell? w _ hw194_0)).trans hw194_0), ((HB.out.cell (World.block_lt_of_cell? w _ hw194_1)).trans hw194_1), ((HB.out.cell (World.block_lt_of_cell? w _ hw195_0)).trans hw195_0), ((HB.out.cell (World.block_lt_of_cell? w _ hw195_1)).trans hw195_1), ((HB.out.cell (World.block_lt_of_cell? w _ hw196_0)).trans hw196_0), ((HB.out.cell (World.block_lt_of_cell? w _ hw196_1)).trans hw196_1), ((HB.out.cell (World.block_lt_of_cell? w _ hw198_0)).trans hw198_0), ((HB.out.cell (World.block_lt_of_cell? w _ hw198_1)).trans hw198_1)⟩ (fun hHeld => ?_)
                clear hK K
                refine norm_ (show Act.put _ (some 64) _ = _ by simp only [pu, s0, s1, i64_w, i32_w]; rfl) ?_
                refine pq 26 70 (bz 46 134217727) (any_of HT_.out (by kernel_rfl)) ?_
                refine pq 27 71 (bz 46 268435455) (any_of HT_.out (by kernel_rfl)) ?_
                refine pq 28 72 (bz 46 536870911) (any_of HT_.out (by kernel_rfl)) ?_
                refine pq 29 73 (bz 46 1073741823) (any_of HT_.out (by kernel_rfl)) ?_
                refine pq 30 74 (bz 46 2147483647) (any_of HT_.out (by kernel_rfl)) ?_
                refine pq 31 75 (bz 46 4294967295) (any_of HT_.out (by kernel_rfl)) ?_
                refine pn 32 76 (bz 46 8589934591) (any_of HT_.out (by kernel_rfl)) ?_
                refine pn 33 77 (bz 46 17179869183) (any_of HT_.out (by kernel_rfl)) ?_
                refine pn 34 78 (bz 46 34359738367) (any_of HT_.out (by kernel_rfl)) ?_
                refine pn 35 79 (bz 46 68719476735) (any_of HT_.out (by kernel_rfl)) ?_
                refine pn 36 80 (bz 46 137438953471) (any_of HT_.out (by kernel_rfl)) ?_
                refine pn 37 81 (bz 46 274877906943) (any_of HT_.out (by kernel_rfl)) ?_
                refine pn 38 82 (bz 46 549755813887) (any_of HT_.out (by kernel_rfl)) ?_
                refine pn 39 83 (bz 46 1099511627775) (any_of HT_.out (by kernel_rfl)) ?_
                refine pn 40 84 (bz 46 2199023255551) (any_of HT_.out (by kernel_rfl)) ?_
                refine pn 41 85 (bz 46 4398046511103) (any_of HT_.out (by kernel_rfl)) ?_
                refine pn 42 86 (bz 46 8796093022207) (any_of HT_.out (by kernel_rfl)) ?_
                refine pn 43 87 (bz 46 17592186044415) (any_of HT_.out (by kernel_rfl)) ?_
                refine pq 44 88 (bz 46 35184372088831) (any_of HT_.out (by kernel_rfl)) ?_
                refine pq 45 89 (bz 46 70368744177663) (any_of HT_.out (by kernel_rfl)) ?_
                refine done_ (done_of HT_.out (by kernel_rfl)) ?_
                try go_wp2
                go_roundg k3
                case measure => have := HK1.out; have := HJ3.out; have := HK3.out; omega
                case rel => exact ⟨(wrap64 (x5_3 + 1)), (by first | rfl | (simp; done) | (simp [*]; done)), H', ⟨by have := HK1.out; have := HJ3.out; have := HK3.out; omega⟩, ⟨by repeat (first | (with_reducible first | exact HB.out | apply below_alloc | apply pw_below_drewN | apply below_drew1) | exact HB.out)⟩⟩
              ·rw [if_neg c19] at H
               have c19b0 : (t197 == ((rd_T26 ((rd_T47 l0 x3_1).f1) x5_3).f1)) = false := beq_eq_false_iff_ne.mpr c19
               have c19b1 : (t197 != ((rd_T26 ((rd_T47 l0 x3_1).f1) x5_3).f1)) = true := bne_iff_ne.mpr c19
               obtain rfl := Option.some.inj H
               try go_wp2
               have n0_ := Aside0.mk (below_drew1 HB.out)
               clear HB
               have HB := n0_
               clear n0_
               have p194 : 0 ≤ (x5_3 : Int) := of_decide_eq_true (by first | (with_reducible assumption) | assumption)
               have q194 : x5_3 < (((rd_T47 l0 x3_1).f1).length : Int) := of_decide_eq_true (by first | (with_reducible assumption) | assumption)
               obtain ⟨ad194, e194, hx194_0, hx194_1⟩ := at_T26 HR190_1.out x5_3 p194 q194
               have hw194_1 := hx194_1
               have hw194_0 := hx194_0
               cases e194
               replace hx194_0 := (HB.out.cell (World.block_lt_of_cell? w _ hx194_0)).trans hx194_0
               replace hx194_1 := (HB.out.cell (World.block_lt_of_cell? w _ hx194_1)).trans hx194_1
               replace p194 := eq_true p194
               replace q194 := eq_true q194
               have p195 : 0 ≤ (x5_3 : Int) := of_decide_eq_true (by first | (with_reducible assumption) | assumption)
               have q195 : x5_3 < (((rd_T47 l0 x3_1).f1).length : Int) := of_decide_eq_true (by first | (with_reducible assumption) | assumption)
               obtain ⟨ad195, e195, hx195_0, hx195_1⟩ := at_T26 HR190_1.out x5_3 p195 q195
               have hw195_1 := hx195_1
               have hw195_0 := hx195_0
               obtain rfl : ad194 = ad195 := (by injection e195)
               replace hx195_0 := (HB.out.cell (World.block_lt_of_cell? w _ hx195_0)).trans hx195_0
               replace hx195_1 := (HB.out.cell (World.block_lt_of_cell? w _ hx195_1)).trans hx195_1
               replace p195 := eq_true p195
               replace q195 := eq_true q195
               have p196 : 0 ≤ (x5_3 : Int) := of_decide_eq_true (by first | (with_reducible assumption) | assumption)
               have q196 : x5_3 < (((rd_T47 l0 x3_1).f1).length : Int) := of_decide_eq_true (by first | (with_reducible assumption) | assumption)
               obtain ⟨ad196, e196, hx196_0, hx196_1⟩ := at_T26 HR190_1.out x5_3 p196 q196
               have hw196_1 := hx196_1
               have hw196_0 := hx196_0
               obtain rfl : ad194 = ad196 := (by injection e196)
               replace hx196_0 := (HB.out.cell (World.block_lt_of_cell? w _ hx196_0)).trans hx196_0
               replace hx196_1 := (HB.out.cell (World.block_lt_of_cell? w _ hx196_1)).trans hx196_1
               replace p196 := eq_true p196
               replace q196 := eq_true q196
               have p198 : 0 ≤ (x5_3 : Int) := of_decide_eq_true (by first | (with_reducible assumption) | assumption)
               have q198 : x5_3 < (((rd_T47 l0 x3_1).f1).length : Int) := of_decide_eq_true (by first | (with_reducible assumption) | assumption)
               obtain ⟨ad198, e198, hx198_0, hx198_1⟩ := at_T26 HR190_1.out x5_3 p198 q198
               have hw198_1 := hx198_1
               have hw198_0 := hx198_0
               obtain rfl : ad194 = ad198 := (by injection e198)
               replace hx198_0 := (HB.out.cell (World.block_lt_of_cell? w _ hx198_0)).trans hx198_0
               replace hx198_1 := (HB.out.cell (World.block_lt_of_cell? w _ hx198_1)).trans hx198_1
               replace p198 := eq_true p198
               replace q198 := eq_true q198
               refine start_ (n := 46) (S := fun w' => w'.cell? (ad194.add ((x5_3).toNat * 2)) = some (.int .i64 ((rd_T26 ((rd_T47 l0 x3_1).f1) x5_3).f0)) ∧ w'.cell? ⟨(ad194.add ((x5_3).toNat * 2)).block, (ad194.add ((x5_3).toNat * 2)).off + 1, none⟩ = some (.int .u64 ((rd_T26 ((rd_T47 l0 x3_1).f1) x5_3).f1)) ∧ w'.cell? (ad194.add ((x5_3).toNat * 2)) = some (.int .i64 ((rd_T26 ((rd_T47 l0 x3_1).f1) x5_3).f0)) ∧ w'.cell? ⟨(ad194.add ((x5_3).toNat * 2)).block, (ad194.add ((x5_3).toNat * 2)).off + 1, none⟩ = some (.int .u64 ((rd_T26 ((rd_T47 l0 x3_1).f1) x5_3).f1)) ∧ w'.cell? (ad194.add ((x5_3).toNat * 2)) = some (.int .i64 ((rd_T26 ((rd_T47 l0 x3_1).f1) x5_3).f0)) ∧ w'.cell? ⟨(ad194.add ((x5_3).toNat * 2)).block, (ad194.add ((x5_3).toNat * 2)).off + 1, none⟩ = some (.int .u64 ((rd_T26 ((rd_T47 l0 x3_1).f1) x5_3).f1)) ∧ w'.cell? (ad194.add ((x5_3).toNat * 2)) = some (.int .i64 ((rd_T26 ((rd_T47 l0 x3_1).f1) x5_3).f0)) ∧ w'.cell? ⟨(ad194.add ((x5_3).toNat * 2)).block, (ad194.add ((x5_3).toNat * 2)).off + 1, none⟩ = some (.int .u64 ((rd_T26 ((rd_T47 l0 x3_1).f1) x5_3).f1))) (ds := []) (bz 46 0) (by kernel_rfl) rfl rfl ⟨((HB.out.cell (World.block_lt_of_cell? w _ hw194_0)).trans hw194_0), ((HB.out.cell (World.block_lt_of_cell? w _ hw194_1)).trans hw194_1), ((HB.out.cell (World.block_lt_of_cell? w _ hw195_0)).trans hw195_0), ((HB.out.cell (World.block_lt_of_cell? w _ hw195_1)).trans hw195_1), ((HB.out.cell (World.block_lt_of_cell? w _ hw196_0)).trans hw196_0), ((HB.out.cell (World.block_lt_of_cell? w _ hw196_1)).trans hw196_1), ((HB.out.cell (World.block_lt_of_cell? w _ hw198_0)).trans hw198_0), ((HB.out.cell (World.block_lt_of_cell? w _ hw198_1)).trans hw198_1)⟩ (fun hHeld => ?_); refine with_tabW soundingsref05_Right.tab10 soundingsref05_Right.bits10 (fun HT_ HW_ => ?_)
               generalize wr.drew = w28 at HB hx194_0 hx194_1 hx195_0 hx195_1 hx196_0 hx196_1 hx198_0 hx198_1 hHeld ⊢
               refine pq 0 44 (bz 46 1) (any_of HT_.out (by kernel_rfl)) ?_
               refine pq 1 45 (bz 46 3) (any_of HT_.out (by kernel_rfl)) ?_
               refine pq 2 46 (bz 46 7) (any_of HT_.out (by kernel_rfl)) ?_
               refine pq 3 47 (bz 46 15) (any_of HT_.out (by kernel_rfl)) ?_
               refine tq 4 48 (bz 46 31) (take_ofW HT_.out HW_.out (by kernel_rfl)) rfl rfl (by rintro w' ⟨s0, s1, s2, s3, s4, s5, s6, s7⟩; go_simp; with_reducible rfl) hHeld ?_
               refine pq 5 49 (bz 46 63) (any_of HT_.out (by kernel_rfl)) ?_
               refine pq 6 50 (bz 46 127) (any_of HT_.out (by kernel_rfl)) ?_
               refine pq 7 51 (bz 46 255) (any_of HT_.out (by kernel_rfl)) ?_
               refine pq 8 52 (bz 46 511) (any_of HT_.out (by kernel_rfl)) ?_
               refine pq 9 53 (bz 46 1023) (any_of HT_.out (by kernel_rfl)) ?_
               refine pq 10 54 (bz 46 2047) (any_of HT_.out (by kernel_rfl)) ?_
               refine tq 11 55 (bz 46 4095) (take_ofW HT_.out HW_.out (by kernel_rfl)) rfl rfl (by rintro w' ⟨s0, s1, s2, s3, s4, s5, s6, s7⟩; go_simp; with_reducible rfl) hHeld ?_
               refine pq 12 56 (bz 46 8191) (any_of HT_.out (by kernel_rfl)) ?_
               refine pq 13 57 (bz 46 16383) (any_of HT_.out (by kernel_rfl)) ?_
               refine pq 14 58 (bz 46 32767) (any_of HT_.out (by kernel_rfl)) ?_
               refine pq 15 59 (bz 46 65535) (any_of HT_.out (by kernel_rfl)) ?_
               refine pq 16 60 (bz 46 131071) (any_of HT_.out (by kernel_rfl)) ?_
               refine pq 17 61 (bz 46 262143) (any_of HT_.out (by kernel_rfl)) ?_
               refine pq 18 62 (bz 46 524287) (any_of HT_.out (by kernel_rfl)) ?_
               refine pq 21 65 (bz 46 2621439) (any_of HT_.out (by kernel_rfl)) ?_
               refine pq 22 66 (bz 46 6815743) (any_of HT_.out (by kernel_rfl)) ?_
               refine pq 23 67 (bz 46 15204351) (any_of HT_.out (by kernel_rfl)) ?_
               refine pq 24 68 (bz 46 31981567) (any_of HT_.out (by kernel_rfl)) ?_
               refine tq 19 63 (bz 46 32505855) (take_ofW HT_.out HW_.out (by kernel_rfl)) rfl rfl (by rintro w' ⟨s0, s1, s2, s3, s4, s5, s6, s7⟩; go_simp; with_reducible rfl) hHeld ?_
               refine tq 25 69 (bz 46 66060287) (take_ofW HT_.out HW_.out (by kernel_rfl)) rfl rfl (by rintro w' ⟨s0, s1, s2, s3, s4, s5, s6, s7⟩; go_simp; with_reducible rfl) hHeld ?_
               refine one_ (i := 20) (N := some 64) (bz 46 67108863) rfl rfl (one_of HT_.out (by kernel_rfl)) (by decide) (fun K hK => ?_)
               refine goes_ Tryz.func24 (by kernel_rfl) rfl #[.int .u64 ((rd_T26 ((rd_T47 l0 x3_1).f1) x5_3).f1)] (by rfl) rfl rfl (by (try simp only [List.map_toArray, List.map_cons, List.map_nil]); first | done | rfl | (simp only [List.length_drop, List.length_take]; rfl)) ?_
               with_reducible refine (soundingsref04_Norm.calls ((rd_T26 ((rd_T47 l0 x3_1).f1) x5_3).f1) t197 _ A18.out).mono ?_
               rintro e w' ⟨rfl, ⟨nd, rfl⟩⟩
               refine ⟨_, rfl, ?_⟩
               refine hK.out _ _ ⟨((HB.out.cell (World.block_lt_of_cell? w _ hw194_0)).trans hw194_0), ((HB.out.cell (World.block_lt_of_cell? w _ hw194_1)).trans hw194_1), ((HB.out.cell (World.block_lt_of_cell? w _ hw195_0)).trans hw195_0), ((HB.out.cell (World.block_lt_of_cell? w _ hw195_1)).trans hw195_1), ((HB.out.cell (World.block_lt_of_cell? w _ hw196_0)).trans hw196_0), ((HB.out.cell (World.block_lt_of_cell? w _ hw196_1)).trans hw196_1), ((HB.out.cell (World.block_lt_of_cell? w _ hw198_0)).trans hw198_0), ((HB.out.cell (World.block_lt_of_cell? w _ hw198_1)).trans hw198_1)⟩ (fun hHeld => ?_)
               clear hK K
               refine norm_ (show Act.put _ (some 64) _ = _ by simp only [pu, s0, s1, i64_w, i32_w]; rfl) ?_
               refine pq 26 70 (bz 46 134217727) (any_of HT_.out (by kernel_rfl)) ?_
               refine pq 27 71 (bz 46 268435455) (any_of HT_.out (by kernel_rfl)) ?_
               refine pq 28 72 (bz 46 536870911) (any_of HT_.out (by kernel_rfl)) ?_
               refine pn 29 73 (bz 46 1073741823) (any_of HT_.out (by kernel_rfl)) ?_
               refine pn 30 74 (bz 46 2147483647) (any_of HT_.out (by kernel_rfl)) ?_
               refine pn 31 75 (bz 46 4294967295) (any_of HT_.out (by kernel_rfl)) ?_
               refine pn 32 76 (bz 46 8589934591) (any_of HT_.out (by kernel_rfl)) ?_
               refine pn 33 77 (bz 46 17179869183) (any_of HT_.out (by kernel_rfl)) ?_
               refine pn 34 78 (bz 46 34359738367) (any_of HT_.out (by kernel_rfl)) ?_
               refine pn 35 79 (bz 46 68719476735) (any_of HT_.out (by kernel_rfl)) ?_
               refine pn 36 80 (bz 46 137438953471) (any_of HT_.out (by kernel_rfl)) ?_
               refine pn 37 81 (bz 46 274877906943) (any_of HT_.out (by kernel_rfl)) ?_
               refine pn 38 82 (bz 46 549755813887) (any_of HT_.out (by kernel_rfl)) ?_
               refine pn 39 83 (bz 46 1099511627775) (any_of HT_.out (by kernel_rfl)) ?_
               refine pn 40 84 (bz 46 2199023255551) (any_of HT_.out (by kernel_rfl)) ?_
               refine pn 41 85 (bz 46 4398046511103) (any_of HT_.out (by kernel_rfl)) ?_
               refine pn 42 86 (bz 46 8796093022207) (any_of HT_.out (by kernel_rfl)) ?_
               refine pn 43 87 (bz 46 17592186044415) (any_of HT_.out (by kernel_rfl)) ?_
               refine pn 44 88 (bz 46 35184372088831) (any_of HT_.out (by kernel_rfl)) ?_
               refine pq 45 89 (bz 46 70368744177663) (any_of HT_.out (by kernel_rfl)) ?_
               refine done_ (done_of HT_.out (by kernel_rfl)) ?_
               try go_wp2
               go_ret
               exact ⟨by first | rfl | (simp [errW_none, errW_some] <;> rfl) | (simp [*, errW_none, errW_some] <;> rfl), by repeat (first | (with_reducible first | exact HB.out | apply below_alloc | apply pw_below_drewN | apply below_drew1) | exact HB.out)⟩
           ·rw [if_neg c13] at H
            exact absurd H (by simp)
          ·rw [if_neg c12] at H
           have c12b0 : decide (x5_3 < (((rd_T47 l0 x3_1).f1).length : Int)) = false := decide_eq_false c12
           clear c12
           by_cases c29 : x3_1 > 0
           ·rw [if_pos c29] at H
            have c29b0 : decide (0 < x3_1) = true := decide_eq_true c29
            clear c29
            by_cases c30 : 0 ≤ x3_1
            ·rw [if_pos c30] at H
             have c30b0 : decide (0 ≤ x3_1) = true := decide_eq_true c30
             clear c30
             by_cases c31 : x3_1 < (l0.length : Int)
             ·rw [if_pos c31] at H
              have c31b0 : decide (x3_1 < (l0.length : Int)) = true := decide_eq_true c31
              clear c31
              obtain ⟨ji32, hji32⟩ : ∃ j_ : Int, (wrap64 (x3_1 - 1)) = j_ := ⟨_, rfl⟩
              replace H : (if 0 ≤ (ji32) then (if (ji32) < (l0.length : Int) then ((soundingsref01_Cmp.f k3 ((rd_T47 l0 x3_1).f0) ((rd_T47 l0 (ji32)).f0)).bind fun t203 => (if t203 = 1 then (soundingsref05_Right.l0 k3 l0 (wrap64 (x3_1 + 1))) else (some false))) else (none)) else (none)) = some r := by first | (rw [hji32] at H; exact H) | (simp only [hji32] at H ⊢; exact H)
              have hji32w : (IntKind.i64.wrap (x3_1 - 1)) = ji32 := (i64_w _).trans hji32
              by_cases c33 : 0 ≤ (ji32)
              ·rw [if_pos c33] at H
               have c33b0 : decide (0 ≤ (ji32)) = true := decide_eq_true c33
               clear c33
               by_cases c34 : (ji32) < (l0.length : Int)
               ·rw [if_pos c34] at H
                have c34b0 : decide ((ji32) < (l0.length : Int)) = true := decide_eq_true c34
                clear c34
                replace H := Option.bind_eq_some_iff.mp H
                obtain ⟨t203, A350, H⟩ := H
                replace H : (if t203 = 1 then (soundingsref05_Right.l0 k3 l0 (wrap64 (x3_1 + 1))) else (some false)) = some r := H
                have A35 := Aside0.mk A350
                clear A350
                by_cases c36 : t203 = 1
                ·rw [if_pos c36] at H
                 have c36b0 : (t203 == 1) = true := beq_iff_eq.mpr c36
                 have c36b1 : (t203 != 1) = false := bne_eq_false_iff_eq.mpr c36
                 clear c36
                 have H' := Aside0.mk H
                 clear H
                 try go_wp2
                 have n0_ := Aside0.mk (below_drew1 HB.out)
                 clear HB
                 have HB := n0_
                 clear n0_
                 have p201 : 0 ≤ (x3_1 : Int) := of_decide_eq_true (by first | (with_reducible assumption) | assumption)
                 have q201 : x3_1 < (l0.length : Int) := of_decide_eq_true (by first | (with_reducible assumption) | assumption)
                 obtain ⟨ad201, A201_0, c201_0, A201_1, c201_1, e201, hx201_0, hx201_1, hl201_0, hi201_0, hl201_1, hi201_1⟩ := at_T47 HR0.out x3_1 p201 q201
                 have hw201_1 := hx201_1
                 have hw201_0 := hx201_0
                 obtain rfl : ad190 = ad201 := (by injection e201)
                 replace hx201_0 := (HB.out.cell (World.block_lt_of_cell? w _ hx201_0)).trans hx201_0
                 replace hx201_1 := (HB.out.cell (World.block_lt_of_cell? w _ hx201_1)).trans hx201_1
                 have HR201_0 := Aside0.mk hi201_0
                 have HC201_0 := Aside0.mk hl201_0
                 clear hi201_0 hl201_0
                 have HR201_1 := Aside0.mk hi201_1
                 have HC201_1 := Aside0.mk hl201_1
                 clear hi201_1 hl201_1
                 replace p201 := eq_true p201
                 replace q201 := eq_true q201
                 have p202 : 0 ≤ ((ji32) : Int) := of_decide_eq_true (by first | (with_reducible assumption) | assumption)
                 have q202 : (ji32) < (l0.length : Int) := of_decide_eq_true (by first | (with_reducible assumption) | assumption)
                 obtain ⟨ad202, A202_0, c202_0, A202_1, c202_1, e202, hx202_0, hx202_1, hl202_0, hi202_0, hl202_1, hi202_1⟩ := at_T47 HR0.out (ji32) p202 q202
                 have hw202_1 := hx202_1
                 have hw202_0 := hx202_0
                 obtain rfl : ad190 = ad202 := (by injection e202)
                 replace hx202_0 := (HB.out.cell (World.block_lt_of_cell? w _ hx202_0)).trans hx202_0
                 replace hx202_1 := (HB.out.cell (World.block_lt_of_cell? w _ hx202_1)).trans hx202_1
                 have HR202_0 := Aside0.mk hi202_0
                 have HC202_0 := Aside0.mk hl202_0
                 clear hi202_0 hl202_0
                 have HR202_1 := Aside0.mk hi202_1
                 have HC202_1 := Aside0.mk hl202_1
                 clear hi202_1 hl202_1
                 replace p202 := eq_true p202
                 replace q202 := eq_true q202
                 refine start_ (n := 17) (S := fun w' => w'.cell? (ad190.add ((x3_1).toNat * 2)) = some (.slice A201_0 ((rd_T47 l0 x3_1).f0).length c201_0) ∧ w'.cell? ⟨(ad190.add ((x3_1).toNat * 2)).block, (ad190.add ((x3_1).toNat * 2)).off + 1, none⟩ = some (.slice A201_1 ((rd_T47 l0 x3_1).f1).length c201_1) ∧ w'.cell? (ad190.add (((ji32)).toNat * 2)) = some (.slice A202_0 ((rd_T47 l0 (ji32)).f0).length c202_0) ∧ w'.cell? ⟨(ad190.add (((ji32)).toNat * 2)).block, (ad190.add (((ji32)).toNat * 2)).off + 1, none⟩ = some (.slice A202_1 ((rd_T47 l0 (ji32)).f1).length c202_1)) (ds := []) (bz 17 0) (by kernel_rfl) rfl rfl ⟨((HB.out.cell (World.block_lt_of_cell? w _ hw201_0)).trans hw201_0), ((HB.out.cell (World.block_lt_of_cell? w _ hw201_1)).trans hw201_1), ((HB.out.cell (World.block_lt_of_cell? w _ hw202_0)).trans hw202_0), ((HB.out.cell (World.block_lt_of_cell? w _ hw202_1)).trans hw202_1)⟩ (fun hHeld => ?_); refine with_tabW soundingsref05_Right.tab12 soundingsref05_Right.bits12 (fun HT_ HW_ => ?_)
                 generalize wr.drew = w37 at HB HR201_0 HR201_1 HR202_0 HR202_1 hx201_0 hx201_1 hx202_0 hx202_1 hHeld ⊢
                 refine pq 0 90 (bz 17 1) (any_of HT_.out (by kernel_rfl)) ?_
                 refine pq 1 91 (bz 17 3) (any_of HT_.out (by kernel_rfl)) ?_
                 refine pq 2 92 (bz 17 7) (any_of HT_.out (by kernel_rfl)) ?_
                 refine pq 3 93 (bz 17 15) (any_of HT_.out (by kernel_rfl)) ?_
                 refine pq 4 94 (bz 17 31) (any_of HT_.out (by kernel_rfl)) ?_
                 refine pq 5 95 (bz 17 63) (any_of HT_.out (by kernel_rfl)) ?_
                 refine pq 6 96 (bz 17 127) (any_of HT_.out (by kernel_rfl)) ?_
                 refine pq 8 98 (bz 17 383) (any_of HT_.out (by kernel_rfl)) ?_
                 refine pq 9 99 (bz 17 895) (any_of HT_.out (by kernel_rfl)) ?_
                 refine pq 10 100 (bz 17 1919) (any_of HT_.out (by kernel_rfl)) ?_
                 refine pq 11 101 (bz 17 3967) (any_of HT_.out (by kernel_rfl)) ?_
                 refine pq 12 102 (bz 17 8063) (any_of HT_.out (by kernel_rfl)) ?_
                 refine tq 7 97 (bz 17 8191) (take_ofW HT_.out HW_.out (by kernel_rfl)) rfl rfl (by rintro w' ⟨s0, s1, s2, s3⟩; go_simp; with_reducible rfl) hHeld ?_
                 refine tq 13 103 (bz 17 16383) (take_ofW HT_.out HW_.out (by kernel_rfl)) rfl rfl (by rintro w' ⟨s0, s1, s2, s3⟩; go_simp; with_reducible rfl) hHeld ?_
                 refine one_ (i := 14) (N := some 104) (bz 17 32767) rfl rfl (one_of HT_.out (by kernel_rfl)) (by decide) (fun K hK => ?_)
                 refine goes_ Tryz.func25 (by kernel_rfl) rfl #[.slice A201_0 ((rd_T47 l0 x3_1).f0).length c201_0, .slice A202_0 ((rd_T47 l0 (ji32)).f0).length c202_0] (by rfl) rfl rfl (by (try simp only [List.map_toArray, List.map_cons, List.map_nil]); first | done | (simp only [hji32]; rfl) | rfl | (simp only [List.length_drop, List.length_take]; rfl)) ?_
                 with_reducible refine (soundingsref01_Cmp.calls k3 _ _ ((rd_T47 l0 x3_1).f0) _ _ ((rd_T47 l0 (ji32)).f0) t203 _ ?side1 ?side2 ?side3 ?side4 A35.out).mono ?_
                 (case side1 => repeat (first | exact (Kd.C_below HR201_0.out HB.out) | (with_reducible refine Kd.C_alloc ?_ _) | (with_reducible refine Kd.C_drewN ?_ _) | (with_reducible refine Kd.C_drew ?_)))
                 (case side2 => exact HC201_0.out)
                 (case side3 => repeat (first | exact (Kd.C_below HR202_0.out HB.out) | (with_reducible refine Kd.C_alloc ?_ _) | (with_reducible refine Kd.C_drewN ?_ _) | (with_reducible refine Kd.C_drew ?_)))
                 (case side4 => exact HC202_0.out)
                 rintro e w' ⟨rfl, ⟨nd, rfl⟩⟩
                 refine ⟨_, rfl, ?_⟩
                 refine hK.out _ _ ⟨((HB.out.cell (World.block_lt_of_cell? w _ hw201_0)).trans hw201_0), ((HB.out.cell (World.block_lt_of_cell? w _ hw201_1)).trans hw201_1), ((HB.out.cell (World.block_lt_of_cell? w _ hw202_0)).trans hw202_0), ((HB.out.cell (World.block_lt_of_cell? w _ hw202_1)).trans hw202_1)⟩ (fun hHeld => ?_)
                 clear hK K
                 refine norm_ (show Act.put _ (some 104) _ = _ by simp only [pu, s0, s1, i64_w, i32_w]; rfl) ?_
                 refine pq 15 105 (bz 17 65535) (any_of HT_.out (by kernel_rfl)) ?_
                 refine pq 16 106 (bz 17 131071) (any_of HT_.out (by kernel_rfl)) ?_
                 refine done_ (done_of HT_.out (by kernel_rfl)) ?_
                 try go_wp2
                 go_roundg k3
                 case measure => have := HK1.out; have := HJ3.out; have := HK3.out; omega
                 case rel => exact ⟨(wrap64 (x3_1 + 1)), (by first | rfl | (simp; done) | (simp [*]; done)), H', ⟨by have := HK1.out; have := HJ3.out; have := HK3.out; omega⟩, ⟨by repeat (first | (with_reducible first | exact HB.out | apply below_alloc | apply pw_below_drewN | apply below_drew1) | exact HB.out)⟩⟩
                ·rw [if_neg c36] at H
                 have c36b0 : (t203 == 1) = false := beq_eq_false_iff_ne.mpr c36
                 have c36b1 : (t203 != 1) = true := bne_iff_ne.mpr c36
                 obtain rfl := Option.some.inj H
                 try go_wp2
                 have n0_ := Aside0.mk (below_drew1 HB.out)
                 clear HB
                 have HB := n0_
                 clear n0_
                 have p201 : 0 ≤ (x3_1 : Int) := of_decide_eq_true (by first | (with_reducible assumption) | assumption)
                 have q201 : x3_1 < (l0.length : Int) := of_decide_eq_true (by first | (with_reducible assumption) | assumption)
                 obtain ⟨ad201, A201_0, c201_0, A201_1, c201_1, e201, hx201_0, hx201_1, hl201_0, hi201_0, hl201_1, hi201_1⟩ := at_T47 HR0.out x3_1 p201 q201
                 have hw201_1 := hx201_1
                 have hw201_0 := hx201_0
                 obtain rfl : ad190 = ad201 := (by injection e201)
                 replace hx201_0 := (HB.out.cell (World.block_lt_of_cell? w _ hx201_0)).trans hx201_0
                 replace hx201_1 := (HB.out.cell (World.block_lt_of_cell? w _ hx201_1)).trans hx201_1
                 have HR201_0 := Aside0.mk hi201_0
                 have HC201_0 := Aside0.mk hl201_0
                 clear hi201_0 hl201_0
                 have HR201_1 := Aside0.mk hi201_1
                 have HC201_1 := Aside0.mk hl201_1
                 clear hi201_1 hl201_1
                 replace p201 := eq_true p201
                 replace q201 := eq_true q201
                 have p202 : 0 ≤ ((ji32) : Int) := of_decide_eq_true (by first | (with_reducible assumption) | assumption)
                 have q202 : (ji32) < (l0.length : Int) := of_decide_eq_true (by first | (with_reducible assumption) | assumption)
                 obtain ⟨ad202, A202_0, c202_0, A202_1, c202_1, e202, hx202_0, hx202_1, hl202_0, hi202_0, hl202_1, hi202_1⟩ := at_T47 HR0.out (ji32) p202 q202
                 have hw202_1 := hx202_1
                 have hw202_0 := hx202_0
                 obtain rfl : ad190 = ad202 := (by injection e202)
                 replace hx202_0 := (HB.out.cell (World.block_lt_of_cell? w _ hx202_0)).trans hx202_0
                 replace hx202_1 := (HB.out.cell (World.block_lt_of_cell? w _ hx202_1)).trans hx202_1
                 have HR202_0 := Aside0.mk hi202_0
                 have HC202_0 := Aside0.mk hl202_0
                 clear hi202_0 hl202_0
                 have HR202_1 := Aside0.mk hi202_1
                 have HC202_1 := Aside0.mk hl202_1
                 clear hi202_1 hl202_1
                 replace p202 := eq_true p202
                 replace q202 := eq_true q202
                 refine start_ (n := 17) (S := fun w' => w'.cell? (ad190.add ((x3_1).toNat * 2)) = some (.slice A201_0 ((rd_T47 l0 x3_1).f0).length c201_0) ∧ w'.cell? ⟨(ad190.add ((x3_1).toNat * 2)).block, (ad190.add ((x3_1).toNat * 2)).off + 1, none⟩ = some (.slice A201_1 ((rd_T47 l0 x3_1).f1).length c201_1) ∧ w'.cell? (ad190.add (((ji32)).toNat * 2)) = some (.slice A202_0 ((rd_T47 l0 (ji32)).f0).length c202_0) ∧ w'.cell? ⟨(ad190.add (((ji32)).toNat * 2)).block, (ad190.add (((ji32)).toNat * 2)).off + 1, none⟩ = some (.slice A202_1 ((rd_T47 l0 (ji32)).f1).length c202_1)) (ds := []) (bz 17 0) (by kernel_rfl) rfl rfl ⟨((HB.out.cell (World.block_lt_of_cell? w _ hw201_0)).trans hw201_0), ((HB.out.cell (World.block_lt_of_cell? w _ hw201_1)).trans hw201_1), ((HB.out.cell (World.block_lt_of_cell? w _ hw202_0)).trans hw202_0), ((HB.out.cell (World.block_lt_of_cell? w _ hw202_1)).trans hw202_1)⟩ (fun hHeld => ?_); refine with_tabW soundingsref05_Right.tab12 soundingsref05_Right.bits12 (fun HT_ HW_ => ?_)
                 generalize wr.drew = w38 at HB HR201_0 HR201_1 HR202_0 HR202_1 hx201_0 hx201_1 hx202_0 hx202_1 hHeld ⊢
                 refine pq 0 90 (bz 17 1) (any_of HT_.out (by kernel_rfl)) ?_
                 refine pq 1 91 (bz 17 3) (any_of HT_.out (by kernel_rfl)) ?_
                 refine pq 2 92 (bz 17 7) (any_of HT_.out (by kernel_rfl)) ?_
                 refine pq 3 93 (bz 17 15) (any_of HT_.out (by kernel_rfl)) ?_
                 refine pq 4 94 (bz 17 31) (any_of HT_.out (by kernel_rfl)) ?_
                 refine pq 5 95 (bz 17 63) (any_of HT_.out (by kernel_rfl)) ?_
                 refine pq 6 96 (bz 17 127) (any_of HT_.out (by kernel_rfl)) ?_
                 refine pq 8 98 (bz 17 383) (any_of HT_.out (by kernel_rfl)) ?_
                 refine pq 9 99 (bz 17 895) (any_of HT_.out (by kernel_rfl)) ?_
                 refine pq 10 100 (bz 17 1919) (any_of HT_.out (by kernel_rfl)) ?_
                 refine pq 11 101 (bz 17 3967) (any_of HT_.out (by kernel_rfl)) ?_
                 refine pq 12 102 (bz 17 8063) (any_of HT_.out (by kernel_rfl)) ?_
                 refine tq 7 97 (bz 17 8191) (take_ofW HT_.out HW_.out (by kernel_rfl)) rfl rfl (by rintro w' ⟨s0, s1, s2, s3⟩; go_simp; with_reducible rfl) hHeld ?_
                 refine tq 13 103 (bz 17 16383) (take_ofW HT_.out HW_.out (by kernel_rfl)) rfl rfl (by rintro w' ⟨s0, s1, s2, s3⟩; go_simp; with_reducible rfl) hHeld ?_
                 refine one_ (i := 14) (N := some 104) (bz 17 32767) rfl rfl (one_of HT_.out (by kernel_rfl)) (by decide) (fun K hK => ?_)
                 refine goes_ Tryz.func25 (by kernel_rfl) rfl #[.slice A201_0 ((rd_T47 l0 x3_1).f0).length c201_0, .slice A202_0 ((rd_T47 l0 (ji32)).f0).length c202_0] (by rfl) rfl rfl (by (try simp only [List.map_toArray, List.map_cons, List.map_nil]); first | done | (simp only [hji32]; rfl) | rfl | (simp only [List.length_drop, List.length_take]; rfl)) ?_
                 with_reducible refine (soundingsref01_Cmp.calls k3 _ _ ((rd_T47 l0 x3_1).f0) _ _ ((rd_T47 l0 (ji32)).f0) t203 _ ?side1 ?side2 ?side3 ?side4 A35.out).mono ?_
                 (case side1 => repeat (first | exact (Kd.C_below HR201_0.out HB.out) | (with_reducible refine Kd.C_alloc ?_ _) | (with_reducible refine Kd.C_drewN ?_ _) | (with_reducible refine Kd.C_drew ?_)))
                 (case side2 => exact HC201_0.out)
                 (case side3 => repeat (first | exact (Kd.C_below HR202_0.out HB.out) | (with_reducible refine Kd.C_alloc ?_ _) | (with_reducible refine Kd.C_drewN ?_ _) | (with_reducible refine Kd.C_drew ?_)))
                 (case side4 => exact HC202_0.out)
                 rintro e w' ⟨rfl, ⟨nd, rfl⟩⟩
                 refine ⟨_, rfl, ?_⟩
                 refine hK.out _ _ ⟨((HB.out.cell (World.block_lt_of_cell? w _ hw201_0)).trans hw201_0), ((HB.out.cell (World.block_lt_of_cell? w _ hw201_1)).trans hw201_1), ((HB.out.cell (World.block_lt_of_cell? w _ hw202_0)).trans hw202_0), ((HB.out.cell (World.block_lt_of_cell? w _ hw202_1)).trans hw202_1)⟩ (fun hHeld => ?_)
                 clear hK K
                 refine norm_ (show Act.put _ (some 104) _ = _ by simp only [pu, s0, s1, i64_w, i32_w]; rfl) ?_
                 refine pq 15 105 (bz 17 65535) (any_of HT_.out (by kernel_rfl)) ?_
                 refine pq 16 106 (bz 17 131071) (any_of HT_.out (by kernel_rfl)) ?_
                 refine done_ (done_of HT_.out (by kernel_rfl)) ?_
                 try go_wp2
                 go_ret
                 exact ⟨by first | rfl | (simp [errW_none, errW_some] <;> rfl) | (simp only [← hji32]; first | rfl | (simp [errW_none, errW_some] <;> rfl)) | (simp [*, errW_none, errW_some] <;> rfl), by repeat (first | (with_reducible first | exact HB.out | apply below_alloc | apply pw_below_drewN | apply below_drew1) | exact HB.out)⟩
               ·rw [if_neg c34] at H
                exact absurd H (by simp)
              ·rw [if_neg c33] at H
               exact absurd H (by simp)
             ·rw [if_neg c31] at H
              exact absurd H (by simp)
            ·rw [if_neg c30] at H
             exact absurd H (by simp)
           ·rw [if_neg c29] at H
            have c29b0 : decide (0 < x3_1) = false := decide_eq_false c29
            clear c29
            have H' := Aside0.mk H
            clear H
            try go_wp2
            have n0_ := Aside0.mk (below_drew1 HB.out)
            clear HB
            have HB := n0_
            clear n0_
            refine start_ (n := 17) (S := fun w' => True) (ds := []) (bz 17 0) (by kernel_rfl) rfl rfl trivial (fun hHeld => ?_); refine with_tabW soundingsref05_Right.tab12 soundingsref05_Right.bits12 (fun HT_ HW_ => ?_)
            generalize wr.drew = w39 at HB hHeld ⊢
            refine pq 0 90 (bz 17 1) (any_of HT_.out (by kernel_rfl)) ?_
            refine pq 1 91 (bz 17 3) (any_of HT_.out (by kernel_rfl)) ?_
            refine pq 2 92 (bz 17 7) (any_of HT_.out (by kernel_rfl)) ?_
            refine pn 3 93 (bz 17 15) (any_of HT_.out (by kernel_rfl)) ?_
            refine pn 4 94 (bz 17 31) (any_of HT_.out (by kernel_rfl)) ?_
            refine pn 5 95 (bz 17 63) (any_of HT_.out (by kernel_rfl)) ?_
            refine pn 6 96 (bz 17 127) (any_of HT_.out (by kernel_rfl)) ?_
            refine pn 7 97 (bz 17 255) (any_of HT_.out (by kernel_rfl)) ?_
            refine pn 8 98 (bz 17 511) (any_of HT_.out (by kernel_rfl)) ?_
            refine pn 9 99 (bz 17 1023) (any_of HT_.out (by kernel_rfl)) ?_
            refine pn 10 100 (bz 17 2047) (any_of HT_.out (by kernel_rfl)) ?_
            refine pn 11 101 (bz 17 4095) (any_of HT_.out (by kernel_rfl)) ?_
            refine pn 12 102 (bz 17 8191) (any_of HT_.out (by kernel_rfl)) ?_
            refine pn 13 103 (bz 17 16383) (any_of HT_.out (by kernel_rfl)) ?_
            refine pn 14 104 (bz 17 32767) (any_of HT_.out (by kernel_rfl)) ?_
            refine pn 15 105 (bz 17 65535) (any_of HT_.out (by kernel_rfl)) ?_
            refine pq 16 106 (bz 17 131071) (any_of HT_.out (by kernel_rfl)) ?_
            refine done_ (done_of HT_.out (by kernel_rfl)) ?_
            try go_wp2
            go_roundg k3
            case measure => have := HK1.out; have := HJ3.out; have := HK3.out; omega
            case rel => exact ⟨(wrap64 (x3_1 + 1)), (by first | rfl | (simp; done) | (simp [*]; done)), H', ⟨by have := HK1.out; have := HJ3.out; have := HK3.out; omega⟩, ⟨by repeat (first | (with_reducible first | exact HB.out | apply below_alloc | apply pw_below_drewN | apply below_drew1) | exact HB.out)⟩⟩
    ·rw [if_neg c3] at H
     exact absurd H (by simp)
   ·rw [if_neg c2] at H
    have c2b0 : decide (x3_1 < (l0.length : Int)) = false := decide_eq_false c2
    clear c2
    obtain rfl := Option.some.inj H
    go_wp2
    go_ret
    exact ⟨by first | rfl | (simp [errW_none, errW_some] <;> rfl) | (simp [*, errW_none, errW_some] <;> rfl), by repeat (first | (with_reducible first | exact HB.out | apply below_alloc | apply pw_below_drewN | apply below_drew1) | exact HB.out)⟩

end Go.Proofs.YtfbockgjhbfidaaGreatDoor.Pr
