/- Texts of this session, cut down to what one claim needs and joined: PrStoreRight. -/
import Derived.Test.YtfbockgjhbfidaaGreatDoorQPr0
import Derived.Test.YtfbockgjhbfidaaGreatDoorQGCmp
import Derived.Test.YtfbockgjhbfidaaGreatDoorQGUMk
import Derived.Test.YtfbockgjhbfidaaGreatDoorQPrStorePoints
-- Written by a program of this session (wip/hook.py) out of the translation. Not trusted: Lean checks it.
namespace Go.Proofs.YtfbockgjhbfidaaGreatDoor.Pr
open Go.RowKit Go.Proofs.YtfbockgjhbfidaaGreatDoorW.PrintWords Go.Proofs.YtfbockgjhbfidaaGreatDoorW.PrintLast Go.Proofs.YtfbockgjhbfidaaGreatDoorW.PrintMore
attribute [local go_sem] max2_int min2_int max_two min_two max_three min_three max_four min_four   -- for this text's walks alone
set_option linter.unusedVariables false
set_option linter.unusedSimpArgs false

/-! ### store_Right: function 14 -/
def store_Right.l0 : Nat → List (S47) → List (S47) → Int → Int → Option (Bool)
 | 0, _, _, _, _ => none
 | k + 1, x0, x5, x6, x7 => if x7 < x6 then (if 0 ≤ x7 then (if x7 < (x5.length : Int) then (if (((rd_T47 x5 x7).f0).length : Int) = 0 then (some false) else ((label_Right.f ((rd_T47 x5 x7).f0)).bind fun t118 => (if t118 = true then ((store_points.f k ((rd_T47 x5 x7).f1)).bind fun t119 => (if t119 = true then (if x7 > 0 then (if 0 ≤ (wrap64 (x7 - 1)) then (if (wrap64 (x7 - 1)) < (x0.length : Int) then ((label_Cmp.f ((rd_T47 x0 (wrap64 (x7 - 1))).f0) ((rd_T47 x5 x7).f0)).bind fun t121 => (if t121 ≥ 0 then (some false) else (store_Right.l0 k x0 x5 x6 (wrap64 (x7 + 1))))) else (none)) else (none)) else (store_Right.l0 k x0 x5 x6 (wrap64 (x7 + 1)))) else (some false))) else (some false)))) else (none)) else (none)) else (some true)
def store_Right.f (k : Nat) (l0 : List (S47)) : Option (Bool) := store_Right.l0 k l0 l0 (l0.length : Int) 0
theorem store_Right.mono_l : ∀ k, (∀ y0 y1 y2 y3, LeO (store_Right.l0 k y0 y1 y2 y3) (store_Right.l0 (k + 1) y0 y1 y2 y3))
 | 0 => fun _ _ _ _ r h => by simp [store_Right.l0] at h
 | k + 1 => by
  have ih0 := store_Right.mono_l k
  ·intro y0 y1 y2 y3
   unfold store_Right.l0
   repeat' first
   | (with_reducible exact ih0 _ _ _ _)
   | (with_reducible exact store_points.mono _ _)
   | (with_reducible exact LeO.refl _)
   | (with_reducible exact LeO.none _)
   | (with_reducible refine LeO.ite ?_ ?_)
   | (with_reducible refine LeO.bind ?_ (fun _ => ?_))
   | exact ih0 _ _ _ _
   | exact store_points.mono _ _
   | exact LeO.none _
   | refine LeO.ite ?_ ?_
   | refine LeO.bind ?_ (fun _ => ?_)
theorem store_Right.mono : ∀ a0 k, LeO (store_Right.f k a0) (store_Right.f (k + 1) a0) := by
 intro a0 k
 have ih0 := store_Right.mono_l k
 unfold store_Right.f
 repeat' first
   | (with_reducible exact ih0 _ _ _ _)
   | (with_reducible exact store_points.mono _ _)
   | (with_reducible exact LeO.refl _)
   | (with_reducible exact LeO.none _)
   | (with_reducible refine LeO.ite ?_ ?_)
   | (with_reducible refine LeO.bind ?_ (fun _ => ?_))
   | exact ih0 _ _ _ _
   | exact store_points.mono _ _
   | exact LeO.none _
   | refine LeO.ite ?_ ?_
   | refine LeO.bind ?_ (fun _ => ?_)
def store_Right.T4 : Bool × List (List Nat × List Nat) := (true, [([], []), ([0], [0]), ([1], [1]), ([2], [2]), ([3], [3]), ([4], [4]), ([5, 4], [4, 5]), ([6, 4, 4], [4, 6]), ([7, 4], [4, 7]), ([4, 8], [4, 8]), ([9, 7], [9]), ([10], [10]), ([11, 10], [10, 11]), ([12, 10, 10], [10, 12]), ([13, 10], [10, 13]), ([10, 14], [10, 14]), ([15, 13], [15]), ([16], [16]), ([17, 16], [16, 17]), ([18, 16, 16], [16, 18]), ([19], [19]), ([19], [19]), ([21, 19], [19, 21]), ([20, 22, 19], [19, 20, 22]), ([23, 19], [19, 23]), ([24, 19], [19, 24]), ([19], [19]), ([26, 19], [19, 26]), ([25, 27, 19, 19], [19, 25, 27]), ([28, 19], [19, 28]), ([19, 29, 16], [16, 19, 29]), ([16, 30], [16, 30])])
def store_Right.B4 : List Nat := [0, 1, 3, 7, 15, 31, 63, 127, 255, 511, 1023, 2047, 4095, 8191, 16383, 32767, 65535, 131071, 262143, 524287, 1048575, 1048575, 3145727, 8388607, 16777215, 33554431, 1048575, 68157439, 268435455, 536870911, 1073741823, 2147483647]
theorem store_Right.tab4 : rtab .any (opsOf Tryz.f14 4) = store_Right.T4 := by kernel_rfl
theorem store_Right.bits4 : waitsOk store_Right.T4.2 store_Right.B4 = true := by kernel_rfl
set_option maxHeartbeats 8000000 in
set_option maxRecDepth 100000 in
theorem store_Right.calls (k : Nat) (A0 : Option Addr) (c0 : Nat) (l0 : List (S47)) (r : Bool) (w : World) (hL_ : Aside0 (LaidAll w)) (hr0 : Kd.C k47 w A0 l0.length l0) (hc0 : l0.length ≤ c0) (h : store_Right.f k l0 = some r) :
  Calls Tryz.prog 14 #[.slice A0 l0.length c0] w fun e w' => e = .returned (.bool r) ∧ Below w.heap.size w w' := by
 have hu47 := Tryz.underlying47
 have HR0 := Aside0.mk hr0
 have HC0 := Aside0.mk hc0
 clear hr0 hc0
 have HB := Aside0.mk (Below.refl w.heap.size w)
 have H : (store_Right.l0 k l0 l0 (l0.length : Int) 0) = some r := h
 clear h
 have H' := Aside0.mk H
 clear H
 go_enter Tryz.func14, Tryz.ntmps14
 go_wp2
 go_loopg [7] k (fun kq v7 w' => ∃ (x7_1 : Int), v7 = .int .i64 x7_1 ∧ Aside0 (store_Right.l0 kq l0 l0 (l0.length : Int) x7_1 = some r) ∧ Aside0 (kq ≤ k) ∧ Aside0 (Below w.heap.size w w'))
 case atStart => exact ⟨(0), (by first | rfl | (simp; done) | (simp [*]; done)), H', ⟨Nat.le_refl _⟩, ⟨by repeat (first | (with_reducible first | exact HB.out | apply below_alloc | apply pw_below_drewN | apply below_drew1) | exact HB.out)⟩⟩
 case round =>
  clear H'
  try clear c1
  obtain ⟨x7_1, rfl, HA, HK1, HB⟩ := hrel
  cases gk with
  | zero => exact absurd HA.out (by simp [store_Right.l0])
  | succ k1 =>
   have H := HA.out
   clear HA
   simp only [store_Right.l0] at H
   by_cases c2 : x7_1 < (l0.length : Int)
   ·rw [if_pos c2] at H
    have c2b0 : decide (x7_1 < (l0.length : Int)) = true := decide_eq_true c2
    clear c2
    by_cases c3 : 0 ≤ x7_1
    ·rw [if_pos c3] at H
     have c3b0 : decide (0 ≤ x7_1) = true := decide_eq_true c3
     clear c3
     by_cases c4 : x7_1 < (l0.length : Int)
     ·rw [if_pos c4] at H
      have c4b0 : decide (x7_1 < (l0.length : Int)) = true := decide_eq_true c4
      clear c4
      by_cases c5 : (((rd_T47 l0 x7_1).f0).length : Int) = 0
      ·rw [if_pos c5] at H
       have c5b0 : ((((rd_T47 l0 x7_1).f0).length : Int) == 0) = true := beq_iff_eq.mpr c5
       have c5b1 : ((((rd_T47 l0 x7_1).f0).length : Int) != 0) = false := bne_eq_false_iff_eq.mpr c5
       clear c5
       obtain rfl := Option.some.inj H
       have p116 : 0 ≤ (x7_1 : Int) := of_decide_eq_true (by first | (with_reducible assumption) | assumption)
       have q116 : x7_1 < (l0.length : Int) := of_decide_eq_true (by first | (with_reducible assumption) | assumption)
       obtain ⟨ad116, A116_0, c116_0, A116_1, c116_1, e116, hx116_0, hx116_1, hl116_0, hi116_0, hl116_1, hi116_1⟩ := at_T47 HR0.out x7_1 p116 q116
       cases e116
       replace hx116_0 := (HB.out.cell (World.block_lt_of_cell? w _ hx116_0)).trans hx116_0
       replace hx116_1 := (HB.out.cell (World.block_lt_of_cell? w _ hx116_1)).trans hx116_1
       have HR116_0 := Aside0.mk hi116_0
       have HC116_0 := Aside0.mk hl116_0
       clear hi116_0 hl116_0
       have HR116_1 := Aside0.mk hi116_1
       have HC116_1 := Aside0.mk hl116_1
       clear hi116_1 hl116_1
       replace p116 := eq_true p116
       replace q116 := eq_true q116
       try go_wp2_with (first | ((with_reducible refine gate_dst (N := 4) rfl ?_); refine box_event ?hg (N := 4) ?hd (cs := #[.slice none 0 0, .slice none 0 0]) (t := 47) ?hr ?_; (case hd => rfl); (case hg => rfl); (case hr => first | (go_simp; done) | (go_simp; rfl)); intro gb117 hg w6 hbox hb; have n0_ := Aside0.mk (below_step (by repeat (first | (with_reducible first | exact HB.out | apply below_alloc | apply pw_below_drewN | apply below_drew1) | exact HB.out)) hb); have n1_ := Aside0.mk (hbox); have n2_ := Aside0.mk ((by rw [hg]; exact (below_size (by repeat (first | (with_reducible first | exact HB.out | apply below_alloc | apply pw_below_drewN | apply below_drew1) | exact HB.out))) : w.heap.size ≤ gb117)); have n3_ := Aside0.mk ((by rw [hg]; exact (below_size (by repeat (first | (with_reducible first | exact HB.out | apply below_alloc | apply pw_below_drewN | apply below_drew1) | exact HB.out))) : w.heap.size ≤ gb117)); clear HB; have HB := n0_; have BK117 := n1_; have GW117 := n2_; have GE117 := n3_; clear n0_ n1_ n2_ n3_; clear hb hbox hg; have hcz7_0 : w6.cell? ⟨gb117, 0, none⟩ = some (.slice none 0 0) := (blk_cell BK117.out 0).trans rfl; have hcz7_1 : w6.cell? ⟨gb117, 1, none⟩ = some (.slice none 0 0) := (blk_cell BK117.out 1).trans rfl; have hfz7_0 := blk_frozen BK117.out 0; have hfz7_1 := blk_frozen BK117.out 1))
       have n0_ : Aside0 (((w6.setCell ⟨gb117, 0, none⟩ (.slice A116_0 ((rd_T47 l0 x7_1).f0).length c116_0)).setCell ⟨gb117, 1, none⟩ (.slice A116_1 ((rd_T47 l0 x7_1).f1).length c116_1)).heap[gb117]? = some (.cells #[.slice A116_0 ((rd_T47 l0 x7_1).f0).length c116_0, .slice A116_1 ((rd_T47 l0 x7_1).f1).length c116_1] 47 (0, 0))) := ⟨by (with_reducible repeat (first | refine blk_drewN ?_ _ | refine blk_drew ?_ | refine blk_alloc ?_ _)); refine blk_put (cs := #[.slice A116_0 ((rd_T47 l0 x7_1).f0).length c116_0, .slice none 0 0]) ?_ 1 _ rfl; (with_reducible repeat (first | refine blk_drewN ?_ _ | refine blk_drew ?_ | refine blk_alloc ?_ _)); refine blk_put (cs := #[.slice none 0 0, .slice none 0 0]) ?_ 0 _ rfl; (with_reducible repeat (first | refine blk_drewN ?_ _ | refine blk_drew ?_ | refine blk_alloc ?_ _)); exact BK117.out⟩
       have n1_ : Aside0 (Below w.heap.size w ((w6.setCell ⟨gb117, 0, none⟩ (.slice A116_0 ((rd_T47 l0 x7_1).f0).length c116_0)).setCell ⟨gb117, 1, none⟩ (.slice A116_1 ((rd_T47 l0 x7_1).f1).length c116_1))) := ⟨by repeat (first | (with_reducible first | exact HB.out | apply below_alloc | apply pw_below_drewN | apply below_drew1 | refine below_set ?_ GE117.out) | exact HB.out)⟩
       (try clear BK117)
       (try clear HB)
       generalize ((w6.setCell ⟨gb117, 0, none⟩ (.slice A116_0 ((rd_T47 l0 x7_1).f0).length c116_0)).setCell ⟨gb117, 1, none⟩ (.slice A116_1 ((rd_T47 l0 x7_1).f1).length c116_1)) = w8 at n0_ n1_ ⊢
       have BK117 := n0_
       have HB := n1_
       clear n0_ n1_
       have n0_ := Aside0.mk (blk_drew BK117.out)
       have n1_ := Aside0.mk (below_drew1 HB.out)
       clear BK117
       clear HB
       have BK117 := n0_
       have HB := n1_
       clear n0_ n1_
       refine start_ (n := 32) (S := fun w' => w'.cell? ⟨gb117, 0, none⟩ = some (.slice A116_0 ((rd_T47 l0 x7_1).f0).length c116_0) ∧ w'.cell? ⟨gb117, 1, none⟩ = some (.slice A116_1 ((rd_T47 l0 x7_1).f1).length c116_1)) (ds := []) (bz 32 0) (by kernel_rfl) rfl rfl ⟨(blk_cell BK117.out 0).trans rfl, (blk_cell BK117.out 1).trans rfl⟩ (fun hHeld => ?_); refine with_tabW store_Right.tab4 store_Right.bits4 (fun HT_ HW_ => ?_)
       generalize w8.drew = w9 at BK117 HB hHeld ⊢
       refine pq 0 12 (bz 32 1) (any_of HT_.out (by kernel_rfl)) ?_
       refine tq 1 13 (bz 32 3) (take_ofW HT_.out HW_.out (by kernel_rfl)) rfl rfl (by rintro w' ⟨s0, s1⟩; go_simp; with_reducible rfl) hHeld ?_
       refine pq 2 14 (bz 32 7) (any_of HT_.out (by kernel_rfl)) ?_
       refine pq 3 15 (bz 32 15) (any_of HT_.out (by kernel_rfl)) ?_
       refine pq 4 16 (bz 32 31) (any_of HT_.out (by kernel_rfl)) ?_
       refine pn 5 17 (bz 32 63) (any_of HT_.out (by kernel_rfl)) ?_
       refine pn 6 18 (bz 32 127) (any_of HT_.out (by kernel_rfl)) ?_
       refine pn 7 19 (bz 32 255) (any_of HT_.out (by kernel_rfl)) ?_
       refine pn 8 20 (bz 32 511) (any_of HT_.out (by kernel_rfl)) ?_
       refine pq 9 21 (bz 32 1023) (any_of HT_.out (by kernel_rfl)) ?_
       refine pq 10 22 (bz 32 2047) (any_of HT_.out (by kernel_rfl)) ?_
       refine pn 11 23 (bz 32 4095) (any_of HT_.out (by kernel_rfl)) ?_
       refine pn 12 24 (bz 32 8191) (any_of HT_.out (by kernel_rfl)) ?_
       refine pn 13 25 (bz 32 16383) (any_of HT_.out (by kernel_rfl)) ?_
       refine pn 14 26 (bz 32 32767) (any_of HT_.out (by kernel_rfl)) ?_
       refine pq 15 27 (bz 32 65535) (any_of HT_.out (by kernel_rfl)) ?_
       refine pq 16 28 (bz 32 131071) (any_of HT_.out (by kernel_rfl)) ?_
       refine pn 17 29 (bz 32 262143) (any_of HT_.out (by kernel_rfl)) ?_
       refine pn 18 30 (bz 32 524287) (any_of HT_.out (by kernel_rfl)) ?_
       refine pn 19 31 (bz 32 1048575) (any_of HT_.out (by kernel_rfl)) ?_
       refine pn 20 32 (bz 32 2097151) (any_of HT_.out (by kernel_rfl)) ?_
       refine pn 21 33 (bz 32 4194303) (any_of HT_.out (by kernel_rfl)) ?_
       refine pn 22 34 (bz 32 8388607) (any_of HT_.out (by kernel_rfl)) ?_
       refine pn 23 35 (bz 32 16777215) (any_of HT_.out (by kernel_rfl)) ?_
       refine pn 24 36 (bz 32 33554431) (any_of HT_.out (by kernel_rfl)) ?_
       refine pn 25 37 (bz 32 67108863) (any_of HT_.out (by kernel_rfl)) ?_
       refine pn 26 38 (bz 32 134217727) (any_of HT_.out (by kernel_rfl)) ?_
       refine pn 27 39 (bz 32 268435455) (any_of HT_.out (by kernel_rfl)) ?_
       refine pn 28 40 (bz 32 536870911) (any_of HT_.out (by kernel_rfl)) ?_
       refine pn 29 41 (bz 32 1073741823) (any_of HT_.out (by kernel_rfl)) ?_
       refine pn 30 42 (bz 32 2147483647) (any_of HT_.out (by kernel_rfl)) ?_
       refine pq 31 43 (bz 32 4294967295) (any_of HT_.out (by kernel_rfl)) ?_
       refine done_ (done_of HT_.out (by kernel_rfl)) ?_
       try go_wp2
       go_ret
       exact ⟨by first | rfl | (simp [errW_none, errW_some] <;> rfl) | (simp [*, errW_none, errW_some] <;> rfl), by repeat (first | (with_reducible first | exact HB.out | apply below_alloc | apply pw_below_drewN | apply below_drew1 | refine below_set ?_ GE117.out) | exact HB.out)⟩
      ·rw [if_neg c5] at H
       have c5b0 : ((((rd_T47 l0 x7_1).f0).length : Int) == 0) = false := beq_eq_false_iff_ne.mpr c5
       have c5b1 : ((((rd_T47 l0 x7_1).f0).length : Int) != 0) = true := bne_iff_ne.mpr c5
       have c5b2 : ¬ (((rd_T47 l0 x7_1).f0) = []) := fun h_ => c5 (by rw [h_]; rfl)
       replace H := Option.bind_eq_some_iff.mp H
       obtain ⟨t118, A100, H⟩ := H
       replace H : (if t118 = true then ((store_points.f k1 ((rd_T47 l0 x7_1).f1)).bind fun t119 => (if t119 = true then (if x7_1 > 0 then (if 0 ≤ (wrap64 (x7_1 - 1)) then (if (wrap64 (x7_1 - 1)) < (l0.length : Int) then ((label_Cmp.f ((rd_T47 l0 (wrap64 (x7_1 - 1))).f0) ((rd_T47 l0 x7_1).f0)).bind fun t121 => (if t121 ≥ 0 then (some false) else (store_Right.l0 k1 l0 l0 (l0.length : Int) (wrap64 (x7_1 + 1))))) else (none)) else (none)) else (store_Right.l0 k1 l0 l0 (l0.length : Int) (wrap64 (x7_1 + 1)))) else (some false))) else (some false)) = some r := H
       have A10 := Aside0.mk A100
       clear A100
       by_cases c11 : t118 = true
       ·subst c11
        have H1 : ((store_points.f k1 ((rd_T47 l0 x7_1).f1)).bind fun t119 => (if t119 = true then (if x7_1 > 0 then (if 0 ≤ (wrap64 (x7_1 - 1)) then (if (wrap64 (x7_1 - 1)) < (l0.length : Int) then ((label_Cmp.f ((rd_T47 l0 (wrap64 (x7_1 - 1))).f0) ((rd_T47 l0 x7_1).f0)).bind fun t121 => (if t121 ≥ 0 then (some false) else (store_Right.l0 k1 l0 l0 (l0.length : Int) (wrap64 (x7_1 + 1))))) else (none)) else (none)) else (store_Right.l0 k1 l0 l0 (l0.length : Int) (wrap64 (x7_1 + 1)))) else (some false))) = some r := by rw [if_pos rfl] at H; exact H
        clear H
        have H := H1
        clear H1
        replace H := Option.bind_eq_some_iff.mp H
        obtain ⟨t119, A120, H⟩ := H
        replace H : (if t119 = true then (if x7_1 > 0 then (if 0 ≤ (wrap64 (x7_1 - 1)) then (if (wrap64 (x7_1 - 1)) < (l0.length : Int) then ((label_Cmp.f ((rd_T47 l0 (wrap64 (x7_1 - 1))).f0) ((rd_T47 l0 x7_1).f0)).bind fun t121 => (if t121 ≥ 0 then (some false) else (store_Right.l0 k1 l0 l0 (l0.length : Int) (wrap64 (x7_1 + 1))))) else (none)) else (none)) else (store_Right.l0 k1 l0 l0 (l0.length : Int) (wrap64 (x7_1 + 1)))) else (some false)) = some r := H
        have A12 := Aside0.mk A120
        clear A120
        by_cases c13 : t119 = true
        ·subst c13
         have H1 : (if x7_1 > 0 then (if 0 ≤ (wrap64 (x7_1 - 1)) then (if (wrap64 (x7_1 - 1)) < (l0.length : Int) then ((label_Cmp.f ((rd_T47 l0 (wrap64 (x7_1 - 1))).f0) ((rd_T47 l0 x7_1).f0)).bind fun t121 => (if t121 ≥ 0 then (some false) else (store_Right.l0 k1 l0 l0 (l0.length : Int) (wrap64 (x7_1 + 1))))) else (none)) else (none)) else (store_Right.l0 k1 l0 l0 (l0.length : Int) (wrap64 (x7_1 + 1)))) = some r := by rw [if_pos rfl] at H; exact H
         clear H
         have H := H1
         clear H1
         by_cases c14 : x7_1 > 0
         ·rw [if_pos c14] at H
          have c14b0 : decide (0 < x7_1) = true := decide_eq_true c14
          clear c14
          obtain ⟨ji15, hji15⟩ : ∃ j_ : Int, (wrap64 (x7_1 - 1)) = j_ := ⟨_, rfl⟩
          replace H : (if 0 ≤ (ji15) then (if (ji15) < (l0.length : Int) then ((label_Cmp.f ((rd_T47 l0 (ji15)).f0) ((rd_T47 l0 x7_1).f0)).bind fun t121 => (if t121 ≥ 0 then (some false) else (store_Right.l0 k1 l0 l0 (l0.length : Int) (wrap64 (x7_1 + 1))))) else (none)) else (none)) = some r := by first | (rw [hji15] at H; exact H) | (simp only [hji15] at H ⊢; exact H)
          (try rw [hji15] at A10)
          (try rw [hji15] at A12)
          have hji15w : (IntKind.i64.wrap (x7_1 - 1)) = ji15 := (i64_w _).trans hji15
          by_cases c16 : 0 ≤ (ji15)
          ·rw [if_pos c16] at H
           have c16b0 : decide (0 ≤ (ji15)) = true := decide_eq_true c16
           clear c16
           by_cases c17 : (ji15) < (l0.length : Int)
           ·rw [if_pos c17] at H
            have c17b0 : decide ((ji15) < (l0.length : Int)) = true := decide_eq_true c17
            clear c17
            replace H := Option.bind_eq_some_iff.mp H
            obtain ⟨t121, A180, H⟩ := H
            replace H : (if t121 ≥ 0 then (some false) else (store_Right.l0 k1 l0 l0 (l0.length : Int) (wrap64 (x7_1 + 1)))) = some r := H
            have A18 := Aside0.mk A180
            clear A180
            by_cases c19 : t121 ≥ 0
            ·rw [if_pos c19] at H
             have c19b0 : decide (0 ≤ t121) = true := decide_eq_true c19
             clear c19
             obtain rfl := Option.some.inj H
             have p116 : 0 ≤ (x7_1 : Int) := of_decide_eq_true (by first | (with_reducible assumption) | assumption)
             have q116 : x7_1 < (l0.length : Int) := of_decide_eq_true (by first | (with_reducible assumption) | assumption)
             obtain ⟨ad116, A116_0, c116_0, A116_1, c116_1, e116, hx116_0, hx116_1, hl116_0, hi116_0, hl116_1, hi116_1⟩ := at_T47 HR0.out x7_1 p116 q116
             cases e116
             replace hx116_0 := (HB.out.cell (World.block_lt_of_cell? w _ hx116_0)).trans hx116_0
             replace hx116_1 := (HB.out.cell (World.block_lt_of_cell? w _ hx116_1)).trans hx116_1
             have HR116_0 := Aside0.mk hi116_0
             have HC116_0 := Aside0.mk hl116_0
             clear hi116_0 hl116_0
             have HR116_1 := Aside0.mk hi116_1
             have HC116_1 := Aside0.mk hl116_1
             clear hi116_1 hl116_1
             replace p116 := eq_true p116
             replace q116 := eq_true q116
             try go_wp2_with (first | ((with_reducible refine gate_dst (N := 4) rfl ?_); refine box_event ?hg (N := 4) ?hd (cs := #[.slice none 0 0, .slice none 0 0]) (t := 47) ?hr ?_; (case hd => rfl); (case hg => rfl); (case hr => first | (go_simp; done) | (go_simp; rfl)); intro gb117 hg w20 hbox hb; have n0_ := Aside0.mk (below_step (by repeat (first | (with_reducible first | exact HB.out | apply below_alloc | apply pw_below_drewN | apply below_drew1) | exact HB.out)) hb); have n1_ := Aside0.mk (hbox); have n2_ := Aside0.mk ((by rw [hg]; exact (below_size (by repeat (first | (with_reducible first | exact HB.out | apply below_alloc | apply pw_below_drewN | apply below_drew1) | exact HB.out))) : w.heap.size ≤ gb117)); have n3_ := Aside0.mk ((by rw [hg]; exact (below_size (by repeat (first | (with_reducible first | exact HB.out | apply below_alloc | apply pw_below_drewN | apply below_drew1) | exact HB.out))) : w.heap.size ≤ gb117)); clear HB; have HB := n0_; have BK117 := n1_; have GW117 := n2_; have GE117 := n3_; clear n0_ n1_ n2_ n3_; clear hb hbox hg; have hcz21_0 : w20.cell? ⟨gb117, 0, none⟩ = some (.slice none 0 0) := (blk_cell BK117.out 0).trans rfl; have hcz21_1 : w20.cell? ⟨gb117, 1, none⟩ = some (.slice none 0 0) := (blk_cell BK117.out 1).trans rfl; have hfz21_0 := blk_frozen BK117.out 0; have hfz21_1 := blk_frozen BK117.out 1))
             have n0_ : Aside0 (((w20.setCell ⟨gb117, 0, none⟩ (.slice A116_0 ((rd_T47 l0 x7_1).f0).length c116_0)).setCell ⟨gb117, 1, none⟩ (.slice A116_1 ((rd_T47 l0 x7_1).f1).length c116_1)).heap[gb117]? = some (.cells #[.slice A116_0 ((rd_T47 l0 x7_1).f0).length c116_0, .slice A116_1 ((rd_T47 l0 x7_1).f1).length c116_1] 47 (0, 0))) := ⟨by (with_reducible repeat (first | refine blk_drewN ?_ _ | refine blk_drew ?_ | refine blk_alloc ?_ _)); refine blk_put (cs := #[.slice A116_0 ((rd_T47 l0 x7_1).f0).length c116_0, .slice none 0 0]) ?_ 1 _ rfl; (with_reducible repeat (first | refine blk_drewN ?_ _ | refine blk_drew ?_ | refine blk_alloc ?_ _)); refine blk_put (cs := #[.slice none 0 0, .slice none 0 0]) ?_ 0 _ rfl; (with_reducible repeat (first | refine blk_drewN ?_ _ | refine blk_drew ?_ | refine blk_alloc ?_ _)); exact BK117.out⟩
             have n1_ : Aside0 (Below w.heap.size w ((w20.setCell ⟨gb117, 0, none⟩ (.slice A116_0 ((rd_T47 l0 x7_1).f0).length c116_0)).setCell ⟨gb117, 1, none⟩ (.slice A116_1 ((rd_T47 l0 x7_1).f1).length c116_1))) := ⟨by repeat (first | (with_reducible first | exact HB.out | apply below_alloc | apply pw_below_drewN | apply below_drew1 | refine below_set ?_ GE117.out) | exact HB.out)⟩
             (try clear BK117)
             (try clear HB)
             generalize ((w20.setCell ⟨gb117, 0, none⟩ (.slice A116_0 ((rd_T47 l0 x7_1).f0).length c116_0)).setCell ⟨gb117, 1, none⟩ (.slice A116_1 ((rd_T47 l0 x7_1).f1).length c116_1)) = w22 at n0_ n1_ ⊢
             have BK117 := n0_
             have HB := n1_
             clear n0_ n1_
             have n0_ := Aside0.mk (blk_drew BK117.out)
             have n1_ := Aside0.mk (below_drew1 HB.out)
             clear BK117
             clear HB
             have BK117 := n0_
             have HB := n1_
             clear n0_ n1_
             have p120 : 0 ≤ ((ji15) : Int) := of_decide_eq_true (by first | (with_reducible assumption) | assumption)
             have q120 : (ji15) < (l0.length : Int) := of_decide_eq_true (by first | (with_reducible assumption) | assumption)
             obtain ⟨ad120, A120_0, c120_0, A120_1, c120_1, e120, hx120_0, hx120_1, hl120_0, hi120_0, hl120_1, hi120_1⟩ := at_T47 HR0.out (ji15) p120 q120
             have hw120_1 := hx120_1
             have hw120_0 := hx120_0
             obtain rfl : ad116 = ad120 := (by injection e120)
             replace hx120_0 := (HB.out.cell (World.block_lt_of_cell? w _ hx120_0)).trans hx120_0
             replace hx120_1 := (HB.out.cell (World.block_lt_of_cell? w _ hx120_1)).trans hx120_1
             have HR120_0 := Aside0.mk hi120_0
             have HC120_0 := Aside0.mk hl120_0
             clear hi120_0 hl120_0
             have HR120_1 := Aside0.mk hi120_1
             have HC120_1 := Aside0.mk hl120_1
             clear hi120_1 hl120_1
             replace p120 := eq_true p120
             replace q120 := eq_true q120
             refine start_ (n := 32) (S := fun w' => w'.cell? ⟨gb117, 0, none⟩ = some (.slice A116_0 ((rd_T47 l0 x7_1).f0).length c116_0) ∧ w'.cell? ⟨gb117, 1, none⟩ = some (.slice A116_1 ((rd_T47 l0 x7_1).f1).length c116_1) ∧ w'.cell? (ad116.add (((ji15)).toNat * 2)) = some (.slice A120_0 ((rd_T47 l0 (ji15)).f0).length c120_0) ∧ w'.cell? ⟨(ad116.add (((ji15)).toNat * 2)).block, (ad116.add (((ji15)).toNat * 2)).off + 1, none⟩ = some (.slice A120_1 ((rd_T47 l0 (ji15)).f1).length c120_1)) (ds := []) (bz 32 0) (by kernel_rfl) rfl rfl ⟨(blk_cell BK117.out 0).trans rfl, (blk_cell BK117.out 1).trans rfl, ((HB.out.cell (World.block_lt_of_cell? w _ hw120_0)).trans hw120_0), ((HB.out.cell (World.block_lt_of_cell? w _ hw120_1)).trans hw120_1)⟩ (fun hHeld => ?_); refine with_tabW store_Right.tab4 store_Right.bits4 (fun HT_ HW_ => ?_)
             generalize w22.drew = w23 at BK117 HB HR120_0 HR120_1 hx120_0 hx120_1 hHeld ⊢
             refine pq 0 12 (bz 32 1) (any_of HT_.out (by kernel_rfl)) ?_
             refine tq 1 13 (bz 32 3) (take_ofW HT_.out HW_.out (by kernel_rfl)) rfl rfl (by rintro w' ⟨s0, s1, s2, s3⟩; go_simp; with_reducible rfl) hHeld ?_
             refine pq 2 14 (bz 32 7) (any_of HT_.out (by kernel_rfl)) ?_
             refine pq 3 15 (bz 32 15) (any_of HT_.out (by kernel_rfl)) ?_
             refine pq 4 16 (bz 32 31) (any_of HT_.out (by kernel_rfl)) ?_
             refine pq 5 17 (bz 32 63) (any_of HT_.out (by kernel_rfl)) ?_
             refine tq 6 18 (bz 32 127) (take_ofW HT_.out HW_.out (by kernel_rfl)) rfl rfl (by rintro w' ⟨s0, s1, s2, s3⟩; go_simp; with_reducible rfl) hHeld ?_
             refine one_ (i := 7) (N := some 19) (bz 32 255) rfl rfl (one_of HT_.out (by kernel_rfl)) (by decide) (fun K hK => ?_)
             refine goes_ Tryz.func33 (by kernel_rfl) rfl #[.slice A116_0 ((rd_T47 l0 x7_1).f0).length c116_0] (by rfl) rfl rfl (by (try simp only [List.map_toArray, List.map_cons, List.map_nil]); first | done | rfl | (simp only [List.length_drop, List.length_take]; rfl)) ?_
             with_reducible refine (label_Right.calls _ _ ((rd_T47 l0 x7_1).f0) true _ ?side1 ?side2 ⟨hL_.out.below (by repeat (first | (with_reducible first | exact HB.out | apply below_alloc | apply pw_below_drewN | apply below_drew1) | exact HB.out))⟩ A10.out).mono ?_
             (case side1 => repeat (first | exact (Kd.C_below HR116_0.out HB.out) | (with_reducible refine Kd.C_alloc ?_ _) | (with_reducible refine Kd.C_drewN ?_ _) | (with_reducible refine Kd.C_drew ?_)))
             (case side2 => exact HC116_0.out)
             rintro e w24 ⟨rfl, hb⟩
             refine ⟨_, rfl, ?_⟩
             have n0_ := Aside0.mk (blk_below (g := gb117) (o := .cells #[.slice A116_0 ((rd_T47 l0 x7_1).f0).length c116_0, .slice A116_1 ((rd_T47 l0 x7_1).f1).length c116_1] 47 (0, 0)) (by (with_reducible repeat (first | refine blk_drewN ?_ _ | refine blk_drew ?_ | refine blk_alloc ?_ _)); exact BK117.out) hb)
             have n1_ := Aside0.mk (below_step (by repeat (first | (with_reducible first | exact HB.out | apply below_alloc | apply pw_below_drewN | apply below_drew1 | refine below_set ?_ GE117.out) | exact HB.out)) hb)
             clear BK117
             clear HB
             have BK117 := n0_
             have HB := n1_
             clear n0_ n1_
             (try clear hb)
             (try clear hb2)
             (try clear hk)
             (try clear hi)
             refine hK.out _ _ ⟨(blk_cell BK117.out 0).trans rfl, (blk_cell BK117.out 1).trans rfl, ((HB.out.cell (World.block_lt_of_cell? w _ hw120_0)).trans hw120_0), ((HB.out.cell (World.block_lt_of_cell? w _ hw120_1)).trans hw120_1)⟩ (fun hHeld => ?_)
             clear hK K
             refine norm_ (show Act.put _ (some 19) _ = _ by simp only [pu, s0, s1, i64_w, i32_w]; rfl) ?_
             refine pq 8 20 (bz 32 511) (any_of HT_.out (by kernel_rfl)) ?_
             refine pq 9 21 (bz 32 1023) (any_of HT_.out (by kernel_rfl)) ?_
             refine pq 10 22 (bz 32 2047) (any_of HT_.out (by kernel_rfl)) ?_
             refine pq 11 23 (bz 32 4095) (any_of HT_.out (by kernel_rfl)) ?_
             refine tq 12 24 (bz 32 8191) (take_ofW HT_.out HW_.out (by kernel_rfl)) rfl rfl (by rintro w' ⟨s0, s1, s2, s3⟩; go_simp; with_reducible rfl) hHeld ?_
             refine one_ (i := 13) (N := some 25) (bz 32 16383) rfl rfl (one_of HT_.out (by kernel_rfl)) (by decide) (fun K hK => ?_)
             refine goes_ Tryz.func34 (by kernel_rfl) rfl #[.slice A116_1 ((rd_T47 l0 x7_1).f1).length c116_1] (by rfl) rfl rfl (by (try simp only [List.map_toArray, List.map_cons, List.map_nil]); first | done | rfl | (simp only [List.length_drop, List.length_take]; rfl)) ?_
             with_reducible refine (store_points.calls k1 _ _ ((rd_T47 l0 x7_1).f1) true _ ?side1 ?side2 A12.out).mono ?_
             (case side1 => repeat (first | exact (Kd.C_below HR116_1.out HB.out) | (with_reducible refine Kd.C_alloc ?_ _) | (with_reducible refine Kd.C_drewN ?_ _) | (with_reducible refine Kd.C_drew ?_)))
             (case side2 => exact HC116_1.out)
             rintro e w25 ⟨rfl, hb⟩
             refine ⟨_, rfl, ?_⟩
             have n0_ := Aside0.mk (blk_below (g := gb117) (o := .cells #[.slice A116_0 ((rd_T47 l0 x7_1).f0).length c116_0, .slice A116_1 ((rd_T47 l0 x7_1).f1).length c116_1] 47 (0, 0)) (by (with_reducible repeat (first | refine blk_drewN ?_ _ | refine blk_drew ?_ | refine blk_alloc ?_ _)); exact BK117.out) hb)
             have n1_ := Aside0.mk (below_step (by repeat (first | (with_reducible first | exact HB.out | apply below_alloc | apply pw_below_drewN | apply below_drew1 | refine below_set ?_ GE117.out) | exact HB.out)) hb)
             clear BK117
             clear HB
             have BK117 := n0_
             have HB := n1_
             clear n0_ n1_
             (try clear hb)
             (try clear hb2)
             (try clear hk)
             (try clear hi)
             refine hK.out _ _ ⟨(blk_cell BK117.out 0).trans rfl, (blk_cell BK117.out 1).trans rfl, ((HB.out.cell (World.block_lt_of_cell? w _ hw120_0)).trans hw120_0), ((HB.out.cell (World.block_lt_of_cell? w _ hw120_1)).trans hw120_1)⟩ (fun hHeld => ?_)
             clear hK K
             refine norm_ (show Act.put _ (some 25) _ = _ by simp only [pu, s0, s1, i64_w, i32_w]; rfl) ?_
             refine pq 14 26 (bz 32 32767) (any_of HT_.out (by kernel_rfl)) ?_
             refine pq 15 27 (bz 32 65535) (any_of HT_.out (by kernel_rfl)) ?_
             refine pq 16 28 (bz 32 131071) (any_of HT_.out (by kernel_rfl)) ?_
             refine pq 17 29 (bz 32 262143) (any_of HT_.out (by kernel_rfl)) ?_
             refine pq 18 30 (bz 32 524287) (any_of HT_.out (by kernel_rfl)) ?_
             refine pq 19 31 (bz 32 1048575) (any_of HT_.out (by kernel_rfl)) ?_
             refine pq 20 32 (bz 32 2097151) (any_of HT_.out (by kernel_rfl)) ?_
             refine pq 21 33 (bz 32 4194303) (any_of HT_.out (by kernel_rfl)) ?_
             refine pq 22 34 (bz 32 8388607) (any_of HT_.out (by kernel_rfl)) ?_
             refine pq 23 35 (bz 32 16777215) (any_of HT_.out (by kernel_rfl)) ?_
             refine pq 24 36 (bz 32 33554431) (any_of HT_.out (by kernel_rfl)) ?_
             refine pq 26 38 (bz 32 100663295) (any_of HT_.out (by kernel_rfl)) ?_
             refine tq 25 37 (bz 32 134217727) (take_ofW HT_.out HW_.out (by kernel_rfl)) rfl rfl (by rintro w' ⟨s0, s1, s2, s3⟩; go_simp; with_reducible rfl) hHeld ?_
             refine tq 27 39 (bz 32 268435455) (take_ofW HT_.out HW_.out (by kernel_rfl)) rfl rfl (by rintro w' ⟨s0, s1, s2, s3⟩; go_simp; with_reducible rfl) hHeld ?_
             refine one_ (i := 28) (N := some 40) (bz 32 536870911) rfl rfl (one_of HT_.out (by kernel_rfl)) (by decide) (fun K hK => ?_)
             refine goes_ Tryz.func28 (by kernel_rfl) rfl #[.slice A120_0 ((rd_T47 l0 (ji15)).f0).length c120_0, .slice A116_0 ((rd_T47 l0 x7_1).f0).length c116_0] (by rfl) rfl rfl (by (try simp only [List.map_toArray, List.map_cons, List.map_nil]); first | done | (simp only [hji15]; rfl) | rfl | (simp only [List.length_drop, List.length_take]; rfl)) ?_
             with_reducible refine (label_Cmp.calls _ _ ((rd_T47 l0 (ji15)).f0) _ _ ((rd_T47 l0 x7_1).f0) t121 _ ?side1 ?side2 ?side3 ?side4 ⟨hL_.out.below (by repeat (first | (with_reducible first | exact HB.out | apply below_alloc | apply pw_below_drewN | apply below_drew1) | exact HB.out))⟩ A18.out).mono ?_
             (case side1 => repeat (first | exact (Kd.C_below HR120_0.out HB.out) | (with_reducible refine Kd.C_alloc ?_ _) | (with_reducible refine Kd.C_drewN ?_ _) | (with_reducible refine Kd.C_drew ?_)))
             (case side2 => exact HC120_0.out)
             (case side3 => repeat (first | exact (Kd.C_below HR116_0.out HB.out) | (with_reducible refine Kd.C_alloc ?_ _) | (with_reducible refine Kd.C_drewN ?_ _) | (with_reducible refine Kd.C_drew ?_)))
             (case side4 => exact HC116_0.out)
             rintro e w26 ⟨rfl, hb⟩
             refine ⟨_, rfl, ?_⟩
             have n0_ := Aside0.mk (blk_below (g := gb117) (o := .cells #[.slice A116_0 ((rd_T47 l0 x7_1).f0).length c116_0, .slice A116_1 ((rd_T47 l0 x7_1).f1).length c116_1] 47 (0, 0)) (by (with_reducible repeat (first | refine blk_drewN ?_ _ | refine blk_drew ?_ | refine blk_alloc ?_ _)); exact BK117.out) hb)
             have n1_ := Aside0.mk (below_step (by repeat (first | (with_reducible first | exact HB.out | apply below_alloc | apply pw_below_drewN | apply below_drew1 | refine below_set ?_ GE117.out) | exact HB.out)) hb)
             clear BK117
             clear HB
             have BK117 := n0_
             have HB := n1_
             clear n0_ n1_
             (try clear hb)
             (try clear hb2)
             (try clear hk)
             (try clear hi)
             refine hK.out _ _ ⟨(blk_cell BK117.out 0).trans rfl, (blk_cell BK117.out 1).trans rfl, ((HB.out.cell (World.block_lt_of_cell? w _ hw120_0)).trans hw120_0), ((HB.out.cell (World.block_lt_of_cell? w _ hw120_1)).trans hw120_1)⟩ (fun hHeld => ?_)
             clear hK K
             refine norm_ (show Act.put _ (some 40) _ = _ by simp only [pu, s0, s1, i64_w, i32_w]; rfl) ?_
             refine pq 29 41 (bz 32 1073741823) (any_of HT_.out (by kernel_rfl)) ?_
             refine pq 30 42 (bz 32 2147483647) (any_of HT_.out (by kernel_rfl)) ?_
             refine pq 31 43 (bz 32 4294967295) (any_of HT_.out (by kernel_rfl)) ?_
             refine done_ (done_of HT_.out (by kernel_rfl)) ?_
             try go_wp2
             go_ret
             exact ⟨by first | rfl | (simp [errW_none, errW_some] <;> rfl) | (simp only [← hji15]; first | rfl | (simp [errW_none, errW_some] <;> rfl)) | (simp [*, errW_none, errW_some] <;> rfl), by repeat (first | (with_reducible first | exact HB.out | apply below_alloc | apply pw_below_drewN | apply below_drew1 | refine below_set ?_ GE117.out) | exact HB.out)⟩
            ·rw [if_neg c19] at H
             have c19b0 : decide (0 ≤ t121) = false := decide_eq_false c19
             clear c19
             have H' := Aside0.mk H
             clear H
             have p116 : 0 ≤ (x7_1 : Int) := of_decide_eq_true (by first | (with_reducible assumption) | assumption)
             have q116 : x7_1 < (l0.length : Int) := of_decide_eq_true (by first | (with_reducible assumption) | assumption)
             obtain ⟨ad116, A116_0, c116_0, A116_1, c116_1, e116, hx116_0, hx116_1, hl116_0, hi116_0, hl116_1, hi116_1⟩ := at_T47 HR0.out x7_1 p116 q116
             cases e116
             replace hx116_0 := (HB.out.cell (World.block_lt_of_cell? w _ hx116_0)).trans hx116_0
             replace hx116_1 := (HB.out.cell (World.block_lt_of_cell? w _ hx116_1)).trans hx116_1
             have HR116_0 := Aside0.mk hi116_0
             have HC116_0 := Aside0.mk hl116_0
             clear hi116_0 hl116_0
             have HR116_1 := Aside0.mk hi116_1
             have HC116_1 := Aside0.mk hl116_1
             clear hi116_1 hl116_1
             replace p116 := eq_true p116
             replace q116 := eq_true q116
             try go_wp2_with (first | ((with_reducible refine gate_dst (N := 4) rfl ?_); refine box_event ?hg (N := 4) ?hd (cs := #[.slice none 0 0, .slice none 0 0]) (t := 47) ?hr ?_; (case hd => rfl); (case hg => rfl); (case hr => first | (go_simp; done) | (go_simp; rfl)); intro gb117 hg w27 hbox hb; have n0_ := Aside0.mk (below_step (by repeat (first | (with_reducible first | exact HB.out | apply below_alloc | apply pw_below_drewN | apply below_drew1) | exact HB.out)) hb); have n1_ := Aside0.mk (hbox); have n2_ := Aside0.mk ((by rw [hg]; exact (below_size (by repeat (first | (with_reducible first | exact HB.out | apply below_alloc | apply pw_below_drewN | apply below_drew1) | exact HB.out))) : w.heap.size ≤ gb117)); have n3_ := Aside0.mk ((by rw [hg]; exact (below_size (by repeat (first | (with_reducible first | exact HB.out | apply below_alloc | apply pw_below_drewN | apply below_drew1) | exact HB.out))) : w.heap.size ≤ gb117)); clear HB; have HB := n0_; have BK117 := n1_; have GW117 := n2_; have GE117 := n3_; clear n0_ n1_ n2_ n3_; clear hb hbox hg; have hcz28_0 : w27.cell? ⟨gb117, 0, none⟩ = some (.slice none 0 0) := (blk_cell BK117.out 0).trans rfl; have hcz28_1 : w27.cell? ⟨gb117, 1, none⟩ = some (.slice none 0 0) := (blk_cell BK117.out 1).trans rfl; have hfz28_0 := blk_frozen BK117.out 0; have hfz28_1 := blk_frozen BK117.out 1))
             have n0_ : Aside0 (((w27.setCell ⟨gb117, 0, none⟩ (.slice A116_0 ((rd_T47 l0 x7_1).f0).length c116_0)).setCell ⟨gb117, 1, none⟩ (.slice A116_1 ((rd_T47 l0 x7_1).f1).length c116_1)).heap[gb117]? = some (.cells #[.slice A116_0 ((rd_T47 l0 x7_1).f0).length c116_0, .slice A116_1 ((rd_T47 l0 x7_1).f1).length c116_1] 47 (0, 0))) := ⟨by (with_reducible repeat (first | refine blk_drewN ?_ _ | refine blk_drew ?_ | refine blk_alloc ?_ _)); refine blk_put (cs := #[.slice A116_0 ((rd_T47 l0 x7_1).f0).length c116_0, .slice none 0 0]) ?_ 1 _ rfl; (with_reducible repeat (first | refine blk_drewN ?_ _ | refine blk_drew ?_ | refine blk_alloc ?_ _)); refine blk_put (cs := #[.slice none 0 0, .slice none 0 0]) ?_ 0 _ rfl; (with_reducible repeat (first | refine blk_drewN ?_ _ | refine blk_drew ?_ | refine blk_alloc ?_ _)); exact BK117.out⟩
             have n1_ : Aside0 (Below w.heap.size w ((w27.setCell ⟨gb117, 0, none⟩ (.slice A116_0 ((rd_T47 l0 x7_1).f0).length c116_0)).setCell ⟨gb117, 1, none⟩ (.slice A116_1 ((rd_T47 l0 x7_1).f1).length c116_1))) := ⟨by repeat (first | (with_reducible first | exact HB.out | apply below_alloc | apply pw_below_drewN | apply below_drew1 | refine below_set ?_ GE117.out) | exact HB.out)⟩
             (try clear BK117)
             (try clear HB)
             generalize ((w27.setCell ⟨gb117, 0, none⟩ (.slice A116_0 ((rd_T47 l0 x7_1).f0).length c116_0)).setCell ⟨gb117, 1, none⟩ (.slice A116_1 ((rd_T47 l0 x7_1).f1).length c116_1)) = w29 at n0_ n1_ ⊢
             have BK117 := n0_
             have HB := n1_
             clear n0_ n1_
             have n0_ := Aside0.mk (blk_drew BK117.out)
             have n1_ := Aside0.mk (below_drew1 HB.out)
             clear BK117
             clear HB
             have BK117 := n0_
             have HB := n1_
             clear n0_ n1_
             have p120 : 0 ≤ ((ji15) : Int) := of_decide_eq_true (by first | (with_reducible assumption) | assumption)
             have q120 : (ji15) < (l0.length : Int) := of_decide_eq_true (by first | (with_reducible assumption) | assumption)
             obtain ⟨ad120, A120_0, c120_0, A120_1, c120_1, e120, hx120_0, hx120_1, hl120_0, hi120_0, hl120_1, hi120_1⟩ := at_T47 HR0.out (ji15) p120 q120
             have hw120_1 := hx120_1
             have hw120_0 := hx120_0
             obtain rfl : ad116 = ad120 := (by injection e120)
             replace hx120_0 := (HB.out.cell (World.block_lt_of_cell? w _ hx120_0)).trans hx120_0
             replace hx120_1 := (HB.out.cell (World.block_lt_of_cell? w _ hx120_1)).trans hx120_1
             have HR120_0 := Aside0.mk hi120_0
             have HC120_0 := Aside0.mk hl120_0
             clear hi120_0 hl120_0
             have HR120_1 := Aside0.mk hi120_1
             have HC120_1 := Aside0.mk hl120_1
             clear hi120_1 hl120_1
             replace p120 := eq_true p120
             replace q120 := eq_true q120
             refine start_ (n := 32) (S := fun w' => w'.cell? ⟨gb117, 0, none⟩ = some (.slice A116_0 ((rd_T47 l0 x7_1).f0).length c116_0) ∧ w'.cell? ⟨gb117, 1, none⟩ = some (.slice A116_1 ((rd_T47 l0 x7_1).f1).length c116_1) ∧ w'.cell? (ad116.add (((ji15)).toNat * 2)) = some (.slice A120_0 ((rd_T47 l0 (ji15)).f0).length c120_0) ∧ w'.cell? ⟨(ad116.add (((ji15)).toNat * 2)).block, (ad116.add (((ji15)).toNat * 2)).off + 1, none⟩ = some (.slice A120_1 ((rd_T47 l0 (ji15)).f1).length c120_1)) (ds := []) (bz 32 0) (by kernel_rfl) rfl rfl ⟨(blk_cell BK117.out 0).trans rfl, (blk_cell BK117.out 1).trans rfl, ((HB.out.cell (World.block_lt_of_cell? w _ hw120_0)).trans hw120_0), ((HB.out.cell (World.block_lt_of_cell? w _ hw120_1)).trans hw120_1)⟩ (fun hHeld => ?_); refine with_tabW store_Right.tab4 store_Right.bits4 (fun HT_ HW_ => ?_)
             generalize w29.drew = w30 at BK117 HB HR120_0 HR120_1 hx120_0 hx120_1 hHeld ⊢
             refine pq 0 12 (bz 32 1) (any_of HT_.out (by kernel_rfl)) ?_
             refine tq 1 13 (bz 32 3) (take_ofW HT_.out HW_.out (by kernel_rfl)) rfl rfl (by rintro w' ⟨s0, s1, s2, s3⟩; go_simp; with_reducible rfl) hHeld ?_
             refine pq 2 14 (bz 32 7) (any_of HT_.out (by kernel_rfl)) ?_
             refine pq 3 15 (bz 32 15) (any_of HT_.out (by kernel_rfl)) ?_
             refine pq 4 16 (bz 32 31) (any_of HT_.out (by kernel_rfl)) ?_
             refine pq 5 17 (bz 32 63) (any_of HT_.out (by kernel_rfl)) ?_
             refine tq 6 18 (bz 32 127) (take_ofW HT_.out HW_.out (by kernel_rfl)) rfl rfl (by rintro w' ⟨s0, s1, s2, s3⟩; go_simp; with_reducible rfl) hHeld ?_
             refine one_ (i := 7) (N := some 19) (bz 32 255) rfl rfl (one_of HT_.out (by kernel_rfl)) (by decide) (fun K hK => ?_)
             refine goes_ Tryz.func33 (by kernel_rfl) rfl #[.slice A116_0 ((rd_T47 l0 x7_1).f0).length c116_0] (by rfl) rfl rfl (by (try simp only [List.map_toArray, List.map_cons, List.map_nil]); first | done | rfl | (simp only [List.length_drop, List.length_take]; rfl)) ?_
             with_reducible refine (label_Right.calls _ _ ((rd_T47 l0 x7_1).f0) true _ ?side1 ?side2 ⟨hL_.out.below (by repeat (first | (with_reducible first | exact HB.out | apply below_alloc | apply pw_below_drewN | apply below_drew1) | exact HB.out))⟩ A10.out).mono ?_
             (case side1 => repeat (first | exact (Kd.C_below HR116_0.out HB.out) | (with_reducible refine Kd.C_alloc ?_ _) | (with_reducible refine Kd.C_drewN ?_ _) | (with_reducible refine Kd.C_drew ?_)))
             (case side2 => exact HC116_0.out)
             rintro e w31 ⟨rfl, hb⟩
             refine ⟨_, rfl, ?_⟩
             have n0_ := Aside0.mk (blk_below (g := gb117) (o := .cells #[.slice A116_0 ((rd_T47 l0 x7_1).f0).length c116_0, .slice A116_1 ((rd_T47 l0 x7_1).f1).length c116_1] 47 (0, 0)) (by (with_reducible repeat (first | refine blk_drewN ?_ _ | refine blk_drew ?_ | refine blk_alloc ?_ _)); exact BK117.out) hb)
             have n1_ := Aside0.mk (below_step (by repeat (first | (with_reducible first | exact HB.out | apply below_alloc | apply pw_below_drewN | apply below_drew1 | refine below_set ?_ GE117.out) | exact HB.out)) hb)
             clear BK117
             clear HB
             have BK117 := n0_
             have HB := n1_
             clear n0_ n1_
             (try clear hb)
             (try clear hb2)
             (try clear hk)
             (try clear hi)
             refine hK.out _ _ ⟨(blk_cell BK117.out 0).trans rfl, (blk_cell BK117.out 1).trans rfl, ((HB.out.cell (World.block_lt_of_cell? w _ hw120_0)).trans hw120_0), ((HB.out.cell (World.block_lt_of_cell? w _ hw120_1)).trans hw120_1)⟩ (fun hHeld => ?_)
             clear hK K
             refine norm_ (show Act.put _ (some 19) _ = _ by simp only [pu, s0, s1, i64_w, i32_w]; rfl) ?_
             refine pq 8 20 (bz 32 511) (any_of HT_.out (by kernel_rfl)) ?_
             refine pq 9 21 (bz 32 1023) (any_of HT_.out (by kernel_rfl)) ?_
             refine pq 10 22 (bz 32 2047) (any_of HT_.out (by kernel_rfl)) ?_
             refine pq 11 23 (bz 32 4095) (any_of HT_.out (by kernel_rfl)) ?_
             refine tq 12 24 (bz 32 8191) (take_ofW HT_.out HW_.out (by kernel_rfl)) rfl rfl (by rintro w' ⟨s0, s1, s2, s3⟩; go_simp; with_reducible rfl) hHeld ?_
             refine one_ (i := 13) (N := some 25) (bz 32 16383) rfl rfl (one_of HT_.out (by kernel_rfl)) (by decide) (fun K hK => ?_)
             refine goes_ Tryz.func34 (by kernel_rfl) rfl #[.slice A116_1 ((rd_T47 l0 x7_1).f1).length c116_1] (by rfl) rfl rfl (by (try simp only [List.map_toArray, List.map_cons, List.map_nil]); first | done | rfl | (simp only [List.length_drop, List.length_take]; rfl)) ?_
             with_reducible refine (store_points.calls k1 _ _ ((rd_T47 l0 x7_1).f1) true _ ?side1 ?side2 A12.out).mono ?_
             (case side1 => repeat (first | exact (Kd.C_below HR116_1.out HB.out) | (with_reducible refine Kd.C_alloc ?_ _) | (with_reducible refine Kd.C_drewN ?_ _) | (with_reducible refine Kd.C_drew ?_)))
             (case side2 => exact HC116_1.out)
             rintro e w32 ⟨rfl, hb⟩
             refine ⟨_, rfl, ?_⟩
             have n0_ := Aside0.mk (blk_below (g := gb117) (o := .cells #[.slice A116_0 ((rd_T47 l0 x7_1).f0).length c116_0, .slice A116_1 ((rd_T47 l0 x7_1).f1).length c116_1] 47 (0, 0)) (by (with_reducible repeat (first | refine blk_drewN ?_ _ | refine blk_drew ?_ | refine blk_alloc ?_ _)); exact BK117.out) hb)
             have n1_ := Aside0.mk (below_step (by repeat (first | (with_reducible first | exact HB.out | apply below_alloc | apply pw_below_drewN | apply below_drew1 | refine below_set ?_ GE117.out) | exact HB.out)) hb)
             clear BK117
             clear HB
             have BK117 := n0_
             have HB := n1_
             clear n0_ n1_
             (try clear hb)
             (try clear hb2)
             (try clear hk)
             (try clear hi)
             refine hK.out _ _ ⟨(blk_cell BK117.out 0).trans rfl, (blk_cell BK117.out 1).trans rfl, ((HB.out.cell (World.block_lt_of_cell? w _ hw120_0)).trans hw120_0), ((HB.out.cell (World.block_lt_of_cell? w _ hw120_1)).trans hw120_1)⟩ (fun hHeld => ?_)
             clear hK K
             refine norm_ (show Act.put _ (some 25) _ = _ by simp only [pu, s0, s1, i64_w, i32_w]; rfl) ?_
             refine pq 14 26 (bz 32 32767) (any_of HT_.out (by kernel_rfl)) ?_
             refine pq 15 27 (bz 32 65535) (any_of HT_.out (by kernel_rfl)) ?_
             refine pq 16 28 (bz 32 131071) (any_of HT_.out (by kernel_rfl)) ?_
             refine pq 17 29 (bz 32 262143) (any_of HT_.out (by kernel_rfl)) ?_
             refine pq 18 30 (bz 32 524287) (any_of HT_.out (by kernel_rfl)) ?_
             refine pq 19 31 (bz 32 1048575) (any_of HT_.out (by kernel_rfl)) ?_
             refine pq 20 32 (bz 32 2097151) (any_of HT_.out (by kernel_rfl)) ?_
             refine pq 21 33 (bz 32 4194303) (any_of HT_.out (by kernel_rfl)) ?_
             refine pq 22 34 (bz 32 8388607) (any_of HT_.out (by kernel_rfl)) ?_
             refine pq 23 35 (bz 32 16777215) (any_of HT_.out (by kernel_rfl)) ?_
             refine pq 24 36 (bz 32 33554431) (any_of HT_.out (by kernel_rfl)) ?_
             refine pq 26 38 (bz 32 100663295) (any_of HT_.out (by kernel_rfl)) ?_
             refine tq 25 37 (bz 32 134217727) (take_ofW HT_.out HW_.out (by kernel_rfl)) rfl rfl (by rintro w' ⟨s0, s1, s2, s3⟩; go_simp; with_reducible rfl) hHeld ?_
             refine tq 27 39 (bz 32 268435455) (take_ofW HT_.out HW_.out (by kernel_rfl)) rfl rfl (by rintro w' ⟨s0, s1, s2, s3⟩; go_simp; with_reducible rfl) hHeld ?_
             refine one_ (i := 28) (N := some 40) (bz 32 536870911) rfl rfl (one_of HT_.out (by kernel_rfl)) (by decide) (fun K hK => ?_)
             refine goes_ Tryz.func28 (by kernel_rfl) rfl #[.slice A120_0 ((rd_T47 l0 (ji15)).f0).length c120_0, .slice A116_0 ((rd_T47 l0 x7_1).f0).length c116_0] (by rfl) rfl rfl (by (try simp only [List.map_toArray, List.map_cons, List.map_nil]); first | done | (simp only [hji15]; rfl) | rfl | (simp only [List.length_drop, List.length_take]; rfl)) ?_
             with_reducible refine (label_Cmp.calls _ _ ((rd_T47 l0 (ji15)).f0) _ _ ((rd_T47 l0 x7_1).f0) t121 _ ?side1 ?side2 ?side3 ?side4 ⟨hL_.out.below (by repeat (first | (with_reducible first | exact HB.out | apply below_alloc | apply pw_below_drewN | apply below_drew1) | exact HB.out))⟩ A18.out).mono ?_
             (case side1 => repeat (first | exact (Kd.C_below HR120_0.out HB.out) | (with_reducible refine Kd.C_alloc ?_ _) | (with_reducible refine Kd.C_drewN ?_ _) | (with_reducible refine Kd.C_drew ?_)))
             (case side2 => exact HC120_0.out)
             (case side3 => repeat (first | exact (Kd.C_below HR116_0.out HB.out) | (with_reducible refine Kd.C_alloc ?_ _) | (with_reducible refine Kd.C_drewN ?_ _) | (with_reducible refine Kd.C_drew ?_)))
             (case side4 => exact HC116_0.out)
             rintro e w33 ⟨rfl, hb⟩
             refine ⟨_, rfl, ?_⟩
             have n0_ := Aside0.mk (blk_below (g := gb117) (o := .cells #[.slice A116_0 ((rd_T47 l0 x7_1).f0).length c116_0, .slice A116_1 ((rd_T47 l0 x7_1).f1).length c116_1] 47 (0, 0)) (by (with_reducible repeat (first | refine blk_drewN ?_ _ | refine blk_drew ?_ | refine blk_alloc ?_ _)); exact BK117.out) hb)
             have n1_ := Aside0.mk (below_step (by repeat (first | (with_reducible first | exact HB.out | apply below_alloc | apply pw_below_drewN | apply below_drew1 | refine below_set ?_ GE117.out) | exact HB.out)) hb)
             clear BK117
             clear HB
             have BK117 := n0_
             have HB := n1_
             clear n0_ n1_
             (try clear hb)
             (try clear hb2)
             (try clear hk)
             (try clear hi)
             refine hK.out _ _ ⟨(blk_cell BK117.out 0).trans rfl, (blk_cell BK117.out 1).trans rfl, ((HB.out.cell (World.block_lt_of_cell? w _ hw120_0)).trans hw120_0), ((HB.out.cell (World.block_lt_of_cell? w _ hw120_1)).trans hw120_1)⟩ (fun hHeld => ?_)
             clear hK K
             refine norm_ (show Act.put _ (some 40) _ = _ by simp only [pu, s0, s1, i64_w, i32_w]; rfl) ?_
             refine pq 29 41 (bz 32 1073741823) (any_of HT_.out (by kernel_rfl)) ?_
             refine pq 30 42 (bz 32 2147483647) (any_of HT_.out (by kernel_rfl)) ?_
             refine pq 31 43 (bz 32 4294967295) (any_of HT_.out (by kernel_rfl)) ?_
             refine done_ (done_of HT_.out (by kernel_rfl)) ?_
             try go_wp2
             go_roundg k1
             case measure => have := HK1.out; omega
             case rel => exact ⟨(wrap64 (x7_1 + 1)), (by first | rfl | (simp; done) | (simp [*]; done)), H', ⟨by have := HK1.out; omega⟩, ⟨by repeat (first | (with_reducible first | exact HB.out | apply below_alloc | apply pw_below_drewN | apply below_drew1 | refine below_set ?_ GE117.out) | exact HB.out)⟩⟩
           ·rw [if_neg c17] at H
            exact absurd H (by simp)
          ·rw [if_neg c16] at H
           exact absurd H (by simp)
         ·rw [if_neg c14] at H
          have c14b0 : decide (0 < x7_1) = false := decide_eq_false c14
          clear c14
          have H' := Aside0.mk H
          clear H
          have p116 : 0 ≤ (x7_1 : Int) := of_decide_eq_true (by first | (with_reducible assumption) | assumption)
          have q116 : x7_1 < (l0.length : Int) := of_decide_eq_true (by first | (with_reducible assumption) | assumption)
          obtain ⟨ad116, A116_0, c116_0, A116_1, c116_1, e116, hx116_0, hx116_1, hl116_0, hi116_0, hl116_1, hi116_1⟩ := at_T47 HR0.out x7_1 p116 q116
          cases e116
          replace hx116_0 := (HB.out.cell (World.block_lt_of_cell? w _ hx116_0)).trans hx116_0
          replace hx116_1 := (HB.out.cell (World.block_lt_of_cell? w _ hx116_1)).trans hx116_1
          have HR116_0 := Aside0.mk hi116_0
          have HC116_0 := Aside0.mk hl116_0
          clear hi116_0 hl116_0
          have HR116_1 := Aside0.mk hi116_1
          have HC116_1 := Aside0.mk hl116_1
          clear hi116_1 hl116_1
          replace p116 := eq_true p116
          replace q116 := eq_true q116
          try go_wp2_with (first | ((with_reducible refine gate_dst (N := 4) rfl ?_); refine box_event ?hg (N := 4) ?hd (cs := #[.slice none 0 0, .slice none 0 0]) (t := 47) ?hr ?_; (case hd => rfl); (case hg => rfl); (case hr => first | (go_simp; done) | (go_simp; rfl)); intro gb117 hg w34 hbox hb; have n0_ := Aside0.mk (below_step (by repeat (first | (with_reducible first | exact HB.out | apply below_alloc | apply pw_below_drewN | apply below_drew1) | exact HB.out)) hb); have n1_ := Aside0.mk (hbox); have n2_ := Aside0.mk ((by rw [hg]; exact (below_size (by repeat (first | (with_reducible first | exact HB.out | apply below_alloc | apply pw_below_drewN | apply below_drew1) | exact HB.out))) : w.heap.size ≤ gb117)); have n3_ := Aside0.mk ((by rw [hg]; exact (below_size (by repeat (first | (with_reducible first | exact HB.out | apply below_alloc | apply pw_below_drewN | apply below_drew1) | exact HB.out))) : w.heap.size ≤ gb117)); clear HB; have HB := n0_; have BK117 := n1_; have GW117 := n2_; have GE117 := n3_; clear n0_ n1_ n2_ n3_; clear hb hbox hg; have hcz35_0 : w34.cell? ⟨gb117, 0, none⟩ = some (.slice none 0 0) := (blk_cell BK117.out 0).trans rfl; have hcz35_1 : w34.cell? ⟨gb117, 1, none⟩ = some (.slice none 0 0) := (blk_cell BK117.out 1).trans rfl; have hfz35_0 := blk_frozen BK117.out 0; have hfz35_1 := blk_frozen BK117.out 1))
          have n0_ : Aside0 (((w34.setCell ⟨gb117, 0, none⟩ (.slice A116_0 ((rd_T47 l0 x7_1).f0).length c116_0)).setCell ⟨gb117, 1, none⟩ (.slice A116_1 ((rd_T47 l0 x7_1).f1).length c116_1)).heap[gb117]? = some (.cells #[.slice A116_0 ((rd_T47 l0 x7_1).f0).length c116_0, .slice A116_1 ((rd_T47 l0 x7_1).f1).length c116_1] 47 (0, 0))) := ⟨by (with_reducible repeat (first | refine blk_drewN ?_ _ | refine blk_drew ?_ | refine blk_alloc ?_ _)); refine blk_put (cs := #[.slice A116_0 ((rd_T47 l0 x7_1).f0).length c116_0, .slice none 0 0]) ?_ 1 _ rfl; (with_reducible repeat (first | refine blk_drewN ?_ _ | refine blk_drew ?_ | refine blk_alloc ?_ _)); refine blk_put (cs := #[.slice none 0 0, .slice none 0 0]) ?_ 0 _ rfl; (with_reducible repeat (first | refine blk_drewN ?_ _ | refine blk_drew ?_ | refine blk_alloc ?_ _)); exact BK117.out⟩
          have n1_ : Aside0 (Below w.heap.size w ((w34.setCell ⟨gb117, 0, none⟩ (.slice A116_0 ((rd_T47 l0 x7_1).f0).length c116_0)).setCell ⟨gb117, 1, none⟩ (.slice A116_1 ((rd_T47 l0 x7_1).f1).length c116_1))) := ⟨by repeat (first | (with_reducible first | exact HB.out | apply below_alloc | apply pw_below_drewN | apply below_drew1 | refine below_set ?_ GE117.out) | exact HB.out)⟩
          (try clear BK117)
          (try clear HB)
          generalize ((w34.setCell ⟨gb117, 0, none⟩ (.slice A116_0 ((rd_T47 l0 x7_1).f0).length c116_0)).setCell ⟨gb117, 1, none⟩ (.slice A116_1 ((rd_T47 l0 x7_1).f1).length c116_1)) = w36 at n0_ n1_ ⊢
          have BK117 := n0_
          have HB := n1_
          clear n0_ n1_
          have n0_ := Aside0.mk (blk_drew BK117.out)
          have n1_ := Aside0.mk (below_drew1 HB.out)
          clear BK117
          clear HB
          have BK117 := n0_
          have HB := n1_
          clear n0_ n1_
          refine start_ (n := 32) (S := fun w' => w'.cell? ⟨gb117, 0, none⟩ = some (.slice A116_0 ((rd_T47 l0 x7_1).f0).length c116_0) ∧ w'.cell? ⟨gb117, 1, none⟩ = some (.slice A116_1 ((rd_T47 l0 x7_1).f1).length c116_1)) (ds := []) (bz 32 0) (by kernel_rfl) rfl rfl ⟨(blk_cell BK117.out 0).trans rfl, (blk_cell BK117.out 1).trans rfl⟩ (fun hHeld => ?_); refine with_tabW store_Right.tab4 store_Right.bits4 (fun HT_ HW_ => ?_)
          generalize w36.drew = w37 at BK117 HB hHeld ⊢
          refine pq 0 12 (bz 32 1) (any_of HT_.out (by kernel_rfl)) ?_
          refine tq 1 13 (bz 32 3) (take_ofW HT_.out HW_.out (by kernel_rfl)) rfl rfl (by rintro w' ⟨s0, s1⟩; go_simp; with_reducible rfl) hHeld ?_
          refine pq 2 14 (bz 32 7) (any_of HT_.out (by kernel_rfl)) ?_
          refine pq 3 15 (bz 32 15) (any_of HT_.out (by kernel_rfl)) ?_
          refine pq 4 16 (bz 32 31) (any_of HT_.out (by kernel_rfl)) ?_
          refine pq 5 17 (bz 32 63) (any_of HT_.out (by kernel_rfl)) ?_
          refine tq 6 18 (bz 32 127) (take_ofW HT_.out HW_.out (by kernel_rfl)) rfl rfl (by rintro w' ⟨s0, s1⟩; go_simp; with_reducible rfl) hHeld ?_
          refine one_ (i := 7) (N := some 19) (bz 32 255) rfl rfl (one_of HT_.out (by kernel_rfl)) (by decide) (fun K hK => ?_)
          refine goes_ Tryz.func33 (by kernel_rfl) rfl #[.slice A116_0 ((rd_T47 l0 x7_1).f0).length c116_0] (by rfl) rfl rfl (by (try simp only [List.map_toArray, List.map_cons, List.map_nil]); first | done | rfl | (simp only [List.length_drop, List.length_take]; rfl)) ?_
          with_reducible refine (label_Right.calls _ _ ((rd_T47 l0 x7_1).f0) true _ ?side1 ?side2 ⟨hL_.out.below (by repeat (first | (with_reducible first | exact HB.out | apply below_alloc | apply pw_below_drewN | apply below_drew1) | exact HB.out))⟩ A10.out).mono ?_
          (case side1 => repeat (first | exact (Kd.C_below HR116_0.out HB.out) | (with_reducible refine Kd.C_alloc ?_ _) | (with_reducible refine Kd.C_drewN ?_ _) | (with_reducible refine Kd.C_drew ?_)))
          (case side2 => exact HC116_0.out)
          rintro e w38 ⟨rfl, hb⟩
          refine ⟨_, rfl, ?_⟩
          have n0_ := Aside0.mk (blk_below (g := gb117) (o := .cells #[.slice A116_0 ((rd_T47 l0 x7_1).f0).length c116_0, .slice A116_1 ((rd_T47 l0 x7_1).f1).length c116_1] 47 (0, 0)) (by (with_reducible repeat (first | refine blk_drewN ?_ _ | refine blk_drew ?_ | refine blk_alloc ?_ _)); exact BK117.out) hb)
          have n1_ := Aside0.mk (below_step (by repeat (first | (with_reducible first | exact HB.out | apply below_alloc | apply pw_below_drewN | apply below_drew1 | refine below_set ?_ GE117.out) | exact HB.out)) hb)
          clear BK117
          clear HB
          have BK117 := n0_
          have HB := n1_
          clear n0_ n1_
          (try clear hb)
          (try clear hb2)
          (try clear hk)
          (try clear hi)
          refine hK.out _ _ ⟨(blk_cell BK117.out 0).trans rfl, (blk_cell BK117.out 1).trans rfl⟩ (fun hHeld => ?_)
          clear hK K
          refine norm_ (show Act.put _ (some 19) _ = _ by simp only [pu, s0, s1, i64_w, i32_w]; rfl) ?_
          refine pq 8 20 (bz 32 511) (any_of HT_.out (by kernel_rfl)) ?_
          refine pq 9 21 (bz 32 1023) (any_of HT_.out (by kernel_rfl)) ?_
          refine pq 10 22 (bz 32 2047) (any_of HT_.out (by kernel_rfl)) ?_
          refine pq 11 23 (bz 32 4095) (any_of HT_.out (by kernel_rfl)) ?_
          refine tq 12 24 (bz 32 8191) (take_ofW HT_.out HW_.out (by kernel_rfl)) rfl rfl (by rintro w' ⟨s0, s1⟩; go_simp; with_reducible rfl) hHeld ?_
          refine one_ (i := 13) (N := some 25) (bz 32 16383) rfl rfl (one_of HT_.out (by kernel_rfl)) (by decide) (fun K hK => ?_)
          refine goes_ Tryz.func34 (by kernel_rfl) rfl #[.slice A116_1 ((rd_T47 l0 x7_1).f1).length c116_1] (by rfl) rfl rfl (by (try simp only [List.map_toArray, List.map_cons, List.map_nil]); first | done | rfl | (simp only [List.length_drop, List.length_take]; rfl)) ?_
          with_reducible refine (store_points.calls k1 _ _ ((rd_T47 l0 x7_1).f1) true _ ?side1 ?side2 A12.out).mono ?_
          (case side1 => repeat (first | exact (Kd.C_below HR116_1.out HB.out) | (with_reducible refine Kd.C_alloc ?_ _) | (with_reducible refine Kd.C_drewN ?_ _) | (with_reducible refine Kd.C_drew ?_)))
          (case side2 => exact HC116_1.out)
          rintro e w39 ⟨rfl, hb⟩
          refine ⟨_, rfl, ?_⟩
          have n0_ := Aside0.mk (blk_below (g := gb117) (o := .cells #[.slice A116_0 ((rd_T47 l0 x7_1).f0).length c116_0, .slice A116_1 ((rd_T47 l0 x7_1).f1).length c116_1] 47 (0, 0)) (by (with_reducible repeat (first | refine blk_drewN ?_ _ | refine blk_drew ?_ | refine blk_alloc ?_ _)); exact BK117.out) hb)
          have n1_ := Aside0.mk (below_step (by repeat (first | (with_reducible first | exact HB.out | apply below_alloc | apply pw_below_drewN | apply below_drew1 | refine below_set ?_ GE117.out) | exact HB.out)) hb)
          clear BK117
          clear HB
          have BK117 := n0_
          have HB := n1_
          clear n0_ n1_
          (try clear hb)
          (try clear hb2)
          (try clear hk)
          (try clear hi)
          refine hK.out _ _ ⟨(blk_cell BK117.out 0).trans rfl, (blk_cell BK117.out 1).trans rfl⟩ (fun hHeld => ?_)
          clear hK K
          refine norm_ (show Act.put _ (some 25) _ = _ by simp only [pu, s0, s1, i64_w, i32_w]; rfl) ?_
          refine pq 14 26 (bz 32 32767) (any_of HT_.out (by kernel_rfl)) ?_
          refine pq 15 27 (bz 32 65535) (any_of HT_.out (by kernel_rfl)) ?_
          refine pq 16 28 (bz 32 131071) (any_of HT_.out (by kernel_rfl)) ?_
          refine pq 17 29 (bz 32 262143) (any_of HT_.out (by kernel_rfl)) ?_
          refine pq 18 30 (bz 32 524287) (any_of HT_.out (by kernel_rfl)) ?_
          refine pq 19 31 (bz 32 1048575) (any_of HT_.out (by kernel_rfl)) ?_
          refine pn 20 32 (bz 32 2097151) (any_of HT_.out (by kernel_rfl)) ?_
          refine pn 21 33 (bz 32 4194303) (any_of HT_.out (by kernel_rfl)) ?_
          refine pn 22 34 (bz 32 8388607) (any_of HT_.out (by kernel_rfl)) ?_
          refine pn 23 35 (bz 32 16777215) (any_of HT_.out (by kernel_rfl)) ?_
          refine pn 24 36 (bz 32 33554431) (any_of HT_.out (by kernel_rfl)) ?_
          refine pn 25 37 (bz 32 67108863) (any_of HT_.out (by kernel_rfl)) ?_
          refine pn 26 38 (bz 32 134217727) (any_of HT_.out (by kernel_rfl)) ?_
          refine pn 27 39 (bz 32 268435455) (any_of HT_.out (by kernel_rfl)) ?_
          refine pn 28 40 (bz 32 536870911) (any_of HT_.out (by kernel_rfl)) ?_
          refine pn 29 41 (bz 32 1073741823) (any_of HT_.out (by kernel_rfl)) ?_
          refine pq 30 42 (bz 32 2147483647) (any_of HT_.out (by kernel_rfl)) ?_
          refine pq 31 43 (bz 32 4294967295) (any_of HT_.out (by kernel_rfl)) ?_
          refine done_ (done_of HT_.out (by kernel_rfl)) ?_
          try go_wp2
          go_roundg k1
          case measure => have := HK1.out; omega
          case rel => exact ⟨(wrap64 (x7_1 + 1)), (by first | rfl | (simp; done) | (simp [*]; done)), H', ⟨by have := HK1.out; omega⟩, ⟨by repeat (first | (with_reducible first | exact HB.out | apply below_alloc | apply pw_below_drewN | apply below_drew1 | refine below_set ?_ GE117.out) | exact HB.out)⟩⟩
        ·replace c13 := Bool.eq_false_iff.mpr c13
         subst c13
         have H1 : (some false) = some r := by rw [if_neg (show ¬ (false = true) by decide)] at H; exact H
         clear H
         have H := H1
         clear H1
         obtain rfl := Option.some.inj H
         have p116 : 0 ≤ (x7_1 : Int) := of_decide_eq_true (by first | (with_reducible assumption) | assumption)
         have q116 : x7_1 < (l0.length : Int) := of_decide_eq_true (by first | (with_reducible assumption) | assumption)
         obtain ⟨ad116, A116_0, c116_0, A116_1, c116_1, e116, hx116_0, hx116_1, hl116_0, hi116_0, hl116_1, hi116_1⟩ := at_T47 HR0.out x7_1 p116 q116
         cases e116
         replace hx116_0 := (HB.out.cell (World.block_lt_of_cell? w _ hx116_0)).trans hx116_0
         replace hx116_1 := (HB.out.cell (World.block_lt_of_cell? w _ hx116_1)).trans hx116_1
         have HR116_0 := Aside0.mk hi116_0
         have HC116_0 := Aside0.mk hl116_0
         clear hi116_0 hl116_0
         have HR116_1 := Aside0.mk hi116_1
         have HC116_1 := Aside0.mk hl116_1
         clear hi116_1 hl116_1
         replace p116 := eq_true p116
         replace q116 := eq_true q116
         try go_wp2_with (first | ((with_reducible refine gate_dst (N := 4) rfl ?_); refine box_event ?hg (N := 4) ?hd (cs := #[.slice none 0 0, .slice none 0 0]) (t := 47) ?hr ?_; (case hd => rfl); (case hg => rfl); (case hr => first | (go_simp; done) | (go_simp; rfl)); intro gb117 hg w40 hbox hb; have n0_ := Aside0.mk (below_step (by repeat (first | (with_reducible first | exact HB.out | apply below_alloc | apply pw_below_drewN | apply below_drew1) | exact HB.out)) hb); have n1_ := Aside0.mk (hbox); have n2_ := Aside0.mk ((by rw [hg]; exact (below_size (by repeat (first | (with_reducible first | exact HB.out | apply below_alloc | apply pw_below_drewN | apply below_drew1) | exact HB.out))) : w.heap.size ≤ gb117)); have n3_ := Aside0.mk ((by rw [hg]; exact (below_size (by repeat (first | (with_reducible first | exact HB.out | apply below_alloc | apply pw_below_drewN | apply below_drew1) | exact HB.out))) : w.heap.size ≤ gb117)); clear HB; have HB := n0_; have BK117 := n1_; have GW117 := n2_; have GE117 := n3_; clear n0_ n1_ n2_ n3_; clear hb hbox hg; have hcz41_0 : w40.cell? ⟨gb117, 0, none⟩ = some (.slice none 0 0) := (blk_cell BK117.out 0).trans rfl; have hcz41_1 : w40.cell? ⟨gb117, 1, none⟩ = some (.slice none 0 0) := (blk_cell BK117.out 1).trans rfl; have hfz41_0 := blk_frozen BK117.out 0; have hfz41_1 := blk_frozen BK117.out 1))
         have n0_ : Aside0 (((w40.setCell ⟨gb117, 0, none⟩ (.slice A116_0 ((rd_T47 l0 x7_1).f0).length c116_0)).setCell ⟨gb117, 1, none⟩ (.slice A116_1 ((rd_T47 l0 x7_1).f1).length c116_1)).heap[gb117]? = some (.cells #[.slice A116_0 ((rd_T47 l0 x7_1).f0).length c116_0, .slice A116_1 ((rd_T47 l0 x7_1).f1).length c116_1] 47 (0, 0))) := ⟨by (with_reducible repeat (first | refine blk_drewN ?_ _ | refine blk_drew ?_ | refine blk_alloc ?_ _)); refine blk_put (cs := #[.slice A116_0 ((rd_T47 l0 x7_1).f0).length c116_0, .slice none 0 0]) ?_ 1 _ rfl; (with_reducible repeat (first | refine blk_drewN ?_ _ | refine blk_drew ?_ | refine blk_alloc ?_ _)); refine blk_put (cs := #[.slice none 0 0, .slice none 0 0]) ?_ 0 _ rfl; (with_reducible repeat (first | refine blk_drewN ?_ _ | refine blk_drew ?_ | refine blk_alloc ?_ _)); exact BK117.out⟩
         have n1_ : Aside0 (Below w.heap.size w ((w40.setCell ⟨gb117, 0, none⟩ (.slice A116_0 ((rd_T47 l0 x7_1).f0).length c116_0)).setCell ⟨gb117, 1, none⟩ (.slice A116_1 ((rd_T47 l0 x7_1).f1).length c116_1))) := ⟨by repeat (first | (with_reducible first | exact HB.out | apply below_alloc | apply pw_below_drewN | apply below_drew1 | refine below_set ?_ GE117.out) | exact HB.out)⟩
         (try clear BK117)
         (try clear HB)
         generalize ((w40.setCell ⟨gb117, 0, none⟩ (.slice A116_0 ((rd_T47 l0 x7_1).f0).length c116_0)).setCell ⟨gb117, 1, none⟩ (.slice A116_1 ((rd_T47 l0 x7_1).f1).length c116_1)) = w42 at n0_ n1_ ⊢
         have BK117 := n0_
         have HB := n1_
         clear n0_ n1_
         have n0_ := Aside0.mk (blk_drew BK117.out)
         have n1_ := Aside0.mk (below_drew1 HB.out)
         clear BK117
         clear HB
         have BK117 := n0_
         have HB := n1_
         clear n0_ n1_
         refine start_ (n := 32) (S := fun w' => w'.cell? ⟨gb117, 0, none⟩ = some (.slice A116_0 ((rd_T47 l0 x7_1).f0).length c116_0) ∧ w'.cell? ⟨gb117, 1, none⟩ = some (.slice A116_1 ((rd_T47 l0 x7_1).f1).length c116_1)) (ds := []) (bz 32 0) (by kernel_rfl) rfl rfl ⟨(blk_cell BK117.out 0).trans rfl, (blk_cell BK117.out 1).trans rfl⟩ (fun hHeld => ?_); refine with_tabW store_Right.tab4 store_Right.bits4 (fun HT_ HW_ => ?_)
         generalize w42.drew = w43 at BK117 HB hHeld ⊢
         refine pq 0 12 (bz 32 1) (any_of HT_.out (by kernel_rfl)) ?_
         refine tq 1 13 (bz 32 3) (take_ofW HT_.out HW_.out (by kernel_rfl)) rfl rfl (by rintro w' ⟨s0, s1⟩; go_simp; with_reducible rfl) hHeld ?_
         refine pq 2 14 (bz 32 7) (any_of HT_.out (by kernel_rfl)) ?_
         refine pq 3 15 (bz 32 15) (any_of HT_.out (by kernel_rfl)) ?_
         refine pq 4 16 (bz 32 31) (any_of HT_.out (by kernel_rfl)) ?_
         refine pq 5 17 (bz 32 63) (any_of HT_.out (by kernel_rfl)) ?_
         refine tq 6 18 (bz 32 127) (take_ofW HT_.out HW_.out (by kernel_rfl)) rfl rfl (by rintro w' ⟨s0, s1⟩; go_simp; with_reducible rfl) hHeld ?_
         refine one_ (i := 7) (N := some 19) (bz 32 255) rfl rfl (one_of HT_.out (by kernel_rfl)) (by decide) (fun K hK => ?_)
         refine goes_ Tryz.func33 (by kernel_rfl) rfl #[.slice A116_0 ((rd_T47 l0 x7_1).f0).length c116_0] (by rfl) rfl rfl (by (try simp only [List.map_toArray, List.map_cons, List.map_nil]); first | done | rfl | (simp only [List.length_drop, List.length_take]; rfl)) ?_
         with_reducible refine (label_Right.calls _ _ ((rd_T47 l0 x7_1).f0) true _ ?side1 ?side2 ⟨hL_.out.below (by repeat (first | (with_reducible first | exact HB.out | apply below_alloc | apply pw_below_drewN | apply below_drew1) | exact HB.out))⟩ A10.out).mono ?_
         (case side1 => repeat (first | exact (Kd.C_below HR116_0.out HB.out) | (with_reducible refine Kd.C_alloc ?_ _) | (with_reducible refine Kd.C_drewN ?_ _) | (with_reducible refine Kd.C_drew ?_)))
         (case side2 => exact HC116_0.out)
         rintro e w44 ⟨rfl, hb⟩
         refine ⟨_, rfl, ?_⟩
         have n0_ := Aside0.mk (blk_below (g := gb117) (o := .cells #[.slice A116_0 ((rd_T47 l0 x7_1).f0).length c116_0, .slice A116_1 ((rd_T47 l0 x7_1).f1).length c116_1] 47 (0, 0)) (by (with_reducible repeat (first | refine blk_drewN ?_ _ | refine blk_drew ?_ | refine blk_alloc ?_ _)); exact BK117.out) hb)
         have n1_ := Aside0.mk (below_step (by repeat (first | (with_reducible first | exact HB.out | apply below_alloc | apply pw_below_drewN | apply below_drew1 | refine below_set ?_ GE117.out) | exact HB.out)) hb)
         clear BK117
         clear HB
         have BK117 := n0_
         have HB := n1_
         clear n0_ n1_
         (try clear hb)
         (try clear hb2)
         (try clear hk)
         (try clear hi)
         refine hK.out _ _ ⟨(blk_cell BK117.out 0).trans rfl, (blk_cell BK117.out 1).trans rfl⟩ (fun hHeld => ?_)
         clear hK K
         refine norm_ (show Act.put _ (some 19) _ = _ by simp only [pu, s0, s1, i64_w, i32_w]; rfl) ?_
         refine pq 8 20 (bz 32 511) (any_of HT_.out (by kernel_rfl)) ?_
         refine pq 9 21 (bz 32 1023) (any_of HT_.out (by kernel_rfl)) ?_
         refine pq 10 22 (bz 32 2047) (any_of HT_.out (by kernel_rfl)) ?_
         refine pq 11 23 (bz 32 4095) (any_of HT_.out (by kernel_rfl)) ?_
         refine tq 12 24 (bz 32 8191) (take_ofW HT_.out HW_.out (by kernel_rfl)) rfl rfl (by rintro w' ⟨s0, s1⟩; go_simp; with_reducible rfl) hHeld ?_
         refine one_ (i := 13) (N := some 25) (bz 32 16383) rfl rfl (one_of HT_.out (by kernel_rfl)) (by decide) (fun K hK => ?_)
         refine goes_ Tryz.func34 (by kernel_rfl) rfl #[.slice A116_1 ((rd_T47 l0 x7_1).f1).length c116_1] (by rfl) rfl rfl (by (try simp only [List.map_toArray, List.map_cons, List.map_nil]); first | done | rfl | (simp only [List.length_drop, List.length_take]; rfl)) ?_
         with_reducible refine (store_points.calls k1 _ _ ((rd_T47 l0 x7_1).f1) false _ ?side1 ?side2 A12.out).mono ?_
         (case side1 => repeat (first | exact (Kd.C_below HR116_1.out HB.out) | (with_reducible refine Kd.C_alloc ?_ _) | (with_reducible refine Kd.C_drewN ?_ _) | (with_reducible refine Kd.C_drew ?_)))
         (case side2 => exact HC116_1.out)
         rintro e w45 ⟨rfl, hb⟩
         refine ⟨_, rfl, ?_⟩
         have n0_ := Aside0.mk (blk_below (g := gb117) (o := .cells #[.slice A116_0 ((rd_T47 l0 x7_1).f0).length c116_0, .slice A116_1 ((rd_T47 l0 x7_1).f1).length c116_1] 47 (0, 0)) (by (with_reducible repeat (first | refine blk_drewN ?_ _ | refine blk_drew ?_ | refine blk_alloc ?_ _)); exact BK117.out) hb)
         have n1_ := Aside0.mk (below_step (by repeat (first | (with_reducible first | exact HB.out | apply below_alloc | apply pw_below_drewN | apply below_drew1 | refine below_set ?_ GE117.out) | exact HB.out)) hb)
         clear BK117
         clear HB
         have BK117 := n0_
         have HB := n1_
         clear n0_ n1_
         (try clear hb)
         (try clear hb2)
         (try clear hk)
         (try clear hi)
         refine hK.out _ _ ⟨(blk_cell BK117.out 0).trans rfl, (blk_cell BK117.out 1).trans rfl⟩ (fun hHeld => ?_)
         clear hK K
         refine norm_ (show Act.put _ (some 25) _ = _ by simp only [pu, s0, s1, i64_w, i32_w]; rfl) ?_
         refine pq 14 26 (bz 32 32767) (any_of HT_.out (by kernel_rfl)) ?_
         refine pq 15 27 (bz 32 65535) (any_of HT_.out (by kernel_rfl)) ?_
         refine pq 16 28 (bz 32 131071) (any_of HT_.out (by kernel_rfl)) ?_
         refine pn 17 29 (bz 32 262143) (any_of HT_.out (by kernel_rfl)) ?_
         refine pn 18 30 (bz 32 524287) (any_of HT_.out (by kernel_rfl)) ?_
         refine pn 19 31 (bz 32 1048575) (any_of HT_.out (by kernel_rfl)) ?_
         refine pn 20 32 (bz 32 2097151) (any_of HT_.out (by kernel_rfl)) ?_
         refine pn 21 33 (bz 32 4194303) (any_of HT_.out (by kernel_rfl)) ?_
         refine pn 22 34 (bz 32 8388607) (any_of HT_.out (by kernel_rfl)) ?_
         refine pn 23 35 (bz 32 16777215) (any_of HT_.out (by kernel_rfl)) ?_
         refine pn 24 36 (bz 32 33554431) (any_of HT_.out (by kernel_rfl)) ?_
         refine pn 25 37 (bz 32 67108863) (any_of HT_.out (by kernel_rfl)) ?_
         refine pn 26 38 (bz 32 134217727) (any_of HT_.out (by kernel_rfl)) ?_
         refine pn 27 39 (bz 32 268435455) (any_of HT_.out (by kernel_rfl)) ?_
         refine pn 28 40 (bz 32 536870911) (any_of HT_.out (by kernel_rfl)) ?_
         refine pn 29 41 (bz 32 1073741823) (any_of HT_.out (by kernel_rfl)) ?_
         refine pn 30 42 (bz 32 2147483647) (any_of HT_.out (by kernel_rfl)) ?_
         refine pq 31 43 (bz 32 4294967295) (any_of HT_.out (by kernel_rfl)) ?_
         refine done_ (done_of HT_.out (by kernel_rfl)) ?_
         try go_wp2
         go_ret
         exact ⟨by first | rfl | (simp [errW_none, errW_some] <;> rfl) | (simp [*, errW_none, errW_some] <;> rfl), by repeat (first | (with_reducible first | exact HB.out | apply below_alloc | apply pw_below_drewN | apply below_drew1 | refine below_set ?_ GE117.out) | exact HB.out)⟩
       ·replace c11 := Bool.eq_false_iff.mpr c11
        subst c11
        have H1 : (some false) = some r := by rw [if_neg (show ¬ (false = true) by decide)] at H; exact H
        clear H
        have H := H1
        clear H1
        obtain rfl := Option.some.inj H
        have p116 : 0 ≤ (x7_1 : Int) := of_decide_eq_true (by first | (with_reducible assumption) | assumption)
        have q116 : x7_1 < (l0.length : Int) := of_decide_eq_true (by first | (with_reducible assumption) | assumption)
        obtain ⟨ad116, A116_0, c116_0, A116_1, c116_1, e116, hx116_0, hx116_1, hl116_0, hi116_0, hl116_1, hi116_1⟩ := at_T47 HR0.out x7_1 p116 q116
        cases e116
        replace hx116_0 := (HB.out.cell (World.block_lt_of_cell? w _ hx116_0)).trans hx116_0
        replace hx116_1 := (HB.out.cell (World.block_lt_of_cell? w _ hx116_1)).trans hx116_1
        have HR116_0 := Aside0.mk hi116_0
        have HC116_0 := Aside0.mk hl116_0
        clear hi116_0 hl116_0
        have HR116_1 := Aside0.mk hi116_1
        have HC116_1 := Aside0.mk hl116_1
        clear hi116_1 hl116_1
        replace p116 := eq_true p116
        replace q116 := eq_true q116
        try go_wp2_with (first | ((with_reducible refine gate_dst (N := 4) rfl ?_); refine box_event ?hg (N := 4) ?hd (cs := #[.slice none 0 0, .slice none 0 0]) (t := 47) ?hr ?_; (case hd => rfl); (case hg => rfl); (case hr => first | (go_simp; done) | (go_simp; rfl)); intro gb117 hg w46 hbox hb; have n0_ := Aside0.mk (below_step (by repeat (first | (with_reducible first | exact HB.out | apply below_alloc | apply pw_below_drewN | apply below_drew1) | exact HB.out)) hb); have n1_ := Aside0.mk (hbox); have n2_ := Aside0.mk ((by rw [hg]; exact (below_size (by repeat (first | (with_reducible first | exact HB.out | apply below_alloc | apply pw_below_drewN | apply below_drew1) | exact HB.out))) : w.heap.size ≤ gb117)); have n3_ := Aside0.mk ((by rw [hg]; exact (below_size (by repeat (first | (with_reducible first | exact HB.out | apply below_alloc | apply pw_below_drewN | apply below_drew1) | exact HB.out))) : w.heap.size ≤ gb117)); clear HB; have HB := n0_; have BK117 := n1_; have GW117 := n2_; have GE117 := n3_; clear n0_ n1_ n2_ n3_; clear hb hbox hg; have hcz47_0 : w46.cell? ⟨gb117, 0, none⟩ = some (.slice none 0 0) := (blk_cell BK117.out 0).trans rfl; have hcz47_1 : w46.cell? ⟨gb117, 1, none⟩ = some (.slice none 0 0) := (blk_cell BK117.out 1).trans rfl; have hfz47_0 := blk_frozen BK117.out 0; have hfz47_1 := blk_frozen BK117.out 1))
        have n0_ : Aside0 (((w46.setCell ⟨gb117, 0, none⟩ (.slice A116_0 ((rd_T47 l0 x7_1).f0).length c116_0)).setCell ⟨gb117, 1, none⟩ (.slice A116_1 ((rd_T47 l0 x7_1).f1).length c116_1)).heap[gb117]? = some (.cells #[.slice A116_0 ((rd_T47 l0 x7_1).f0).length c116_0, .slice A116_1 ((rd_T47 l0 x7_1).f1).length c116_1] 47 (0, 0))) := ⟨by (with_reducible repeat (first | refine blk_drewN ?_ _ | refine blk_drew ?_ | refine blk_alloc ?_ _)); refine blk_put (cs := #[.slice A116_0 ((rd_T47 l0 x7_1).f0).length c116_0, .slice none 0 0]) ?_ 1 _ rfl; (with_reducible repeat (first | refine blk_drewN ?_ _ | refine blk_drew ?_ | refine blk_alloc ?_ _)); refine blk_put (cs := #[.slice none 0 0, .slice none 0 0]) ?_ 0 _ rfl; (with_reducible repeat (first | refine blk_drewN ?_ _ | refine blk_drew ?_ | refine blk_alloc ?_ _)); exact BK117.out⟩
        have n1_ : Aside0 (Below w.heap.size w ((w46.setCell ⟨gb117, 0, none⟩ (.slice A116_0 ((rd_T47 l0 x7_1).f0).length c116_0)).setCell ⟨gb117, 1, none⟩ (.slice A116_1 ((rd_T47 l0 x7_1).f1).length c116_1))) := ⟨by repeat (first | (with_reducible first | exact HB.out | apply below_alloc | apply pw_below_drewN | apply below_drew1 | refine below_set ?_ GE117.out) | exact HB.out)⟩
        (try clear BK117)
        (try clear HB)
        generalize ((w46.setCell ⟨gb117, 0, none⟩ (.slice A116_0 ((rd_T47 l0 x7_1).f0).length c116_0)).setCell ⟨gb117, 1, none⟩ (.slice A116_1 ((rd_T47 l0 x7_1).f1).length c116_1)) = w48 at n0_ n1_ ⊢
        have BK117 := n0_
        have HB := n1_
        clear n0_ n1_
        have n0_ := Aside0.mk (blk_drew BK117.out)
        have n1_ := Aside0.mk (below_drew1 HB.out)
        clear BK117
        clear HB
        have BK117 := n0_
        have HB := n1_
        clear n0_ n1_
        refine start_ (n := 32) (S := fun w' => w'.cell? ⟨gb117, 0, none⟩ = some (.slice A116_0 ((rd_T47 l0 x7_1).f0).length c116_0) ∧ w'.cell? ⟨gb117, 1, none⟩ = some (.slice A116_1 ((rd_T47 l0 x7_1).f1).length c116_1)) (ds := []) (bz 32 0) (by kernel_rfl) rfl rfl ⟨(blk_cell BK117.out 0).trans rfl, (blk_cell BK117.out 1).trans rfl⟩ (fun hHeld => ?_); refine with_tabW store_Right.tab4 store_Right.bits4 (fun HT_ HW_ => ?_)
        generalize w48.drew = w49 at BK117 HB hHeld ⊢
        refine pq 0 12 (bz 32 1) (any_of HT_.out (by kernel_rfl)) ?_
        refine tq 1 13 (bz 32 3) (take_ofW HT_.out HW_.out (by kernel_rfl)) rfl rfl (by rintro w' ⟨s0, s1⟩; go_simp; with_reducible rfl) hHeld ?_
        refine pq 2 14 (bz 32 7) (any_of HT_.out (by kernel_rfl)) ?_
        refine pq 3 15 (bz 32 15) (any_of HT_.out (by kernel_rfl)) ?_
        refine pq 4 16 (bz 32 31) (any_of HT_.out (by kernel_rfl)) ?_
        refine pq 5 17 (bz 32 63) (any_of HT_.out (by kernel_rfl)) ?_
        refine tq 6 18 (bz 32 127) (take_ofW HT_.out HW_.out (by kernel_rfl)) rfl rfl (by rintro w' ⟨s0, s1⟩; go_simp; with_reducible rfl) hHeld ?_
        refine one_ (i := 7) (N := some 19) (bz 32 255) rfl rfl (one_of HT_.out (by kernel_rfl)) (by decide) (fun K hK => ?_)
        refine goes_ Tryz.func33 (by kernel_rfl) rfl #[.slice A116_0 ((rd_T47 l0 x7_1).f0).length c116_0] (by rfl) rfl rfl (by (try simp only [List.map_toArray, List.map_cons, List.map_nil]); first | done | rfl | (simp only [List.length_drop, List.length_take]; rfl)) ?_
        with_reducible refine (label_Right.calls _ _ ((rd_T47 l0 x7_1).f0) false _ ?side1 ?side2 ⟨hL_.out.below (by repeat (first | (with_reducible first | exact HB.out | apply below_alloc | apply pw_below_drewN | apply below_drew1) | exact HB.out))⟩ A10.out).mono ?_
        (case side1 => repeat (first | exact (Kd.C_below HR116_0.out HB.out) | (with_reducible refine Kd.C_alloc ?_ _) | (with_reducible refine Kd.C_drewN ?_ _) | (with_reducible refine Kd.C_drew ?_)))
        (case side2 => exact HC116_0.out)
        rintro e w50 ⟨rfl, hb⟩
        refine ⟨_, rfl, ?_⟩
        have n0_ := Aside0.mk (blk_below (g := gb117) (o := .cells #[.slice A116_0 ((rd_T47 l0 x7_1).f0).length c116_0, .slice A116_1 ((rd_T47 l0 x7_1).f1).length c116_1] 47 (0, 0)) (by (with_reducible repeat (first | refine blk_drewN ?_ _ | refine blk_drew ?_ | refine blk_alloc ?_ _)); exact BK117.out) hb)
        have n1_ := Aside0.mk (below_step (by repeat (first | (with_reducible first | exact HB.out | apply below_alloc | apply pw_below_drewN | apply below_drew1 | refine below_set ?_ GE117.out) | exact HB.out)) hb)
        clear BK117
        clear HB
        have BK117 := n0_
        have HB := n1_
        clear n0_ n1_
        (try clear hb)
        (try clear hb2)
        (try clear hk)
        (try clear hi)
        refine hK.out _ _ ⟨(blk_cell BK117.out 0).trans rfl, (blk_cell BK117.out 1).trans rfl⟩ (fun hHeld => ?_)
        clear hK K
        refine norm_ (show Act.put _ (some 19) _ = _ by simp only [pu, s0, s1, i64_w, i32_w]; rfl) ?_
        refine pq 8 20 (bz 32 511) (any_of HT_.out (by kernel_rfl)) ?_
        refine pq 9 21 (bz 32 1023) (any_of HT_.out (by kernel_rfl)) ?_
        refine pq 10 22 (bz 32 2047) (any_of HT_.out (by kernel_rfl)) ?_
        refine pn 11 23 (bz 32 4095) (any_of HT_.out (by kernel_rfl)) ?_
        refine pn 12 24 (bz 32 8191) (any_of HT_.out (by kernel_rfl)) ?_
        refine pn 13 25 (bz 32 16383) (any_of HT_.out (by kernel_rfl)) ?_
        refine pn 14 26 (bz 32 32767) (any_of HT_.out (by kernel_rfl)) ?_
        refine pq 15 27 (bz 32 65535) (any_of HT_.out (by kernel_rfl)) ?_
        refine pq 16 28 (bz 32 131071) (any_of HT_.out (by kernel_rfl)) ?_
        refine pn 17 29 (bz 32 262143) (any_of HT_.out (by kernel_rfl)) ?_
        refine pn 18 30 (bz 32 524287) (any_of HT_.out (by kernel_rfl)) ?_
        refine pn 19 31 (bz 32 1048575) (any_of HT_.out (by kernel_rfl)) ?_
        refine pn 20 32 (bz 32 2097151) (any_of HT_.out (by kernel_rfl)) ?_
        refine pn 21 33 (bz 32 4194303) (any_of HT_.out (by kernel_rfl)) ?_
        refine pn 22 34 (bz 32 8388607) (any_of HT_.out (by kernel_rfl)) ?_
        refine pn 23 35 (bz 32 16777215) (any_of HT_.out (by kernel_rfl)) ?_
        refine pn 24 36 (bz 32 33554431) (any_of HT_.out (by kernel_rfl)) ?_
        refine pn 25 37 (bz 32 67108863) (any_of HT_.out (by kernel_rfl)) ?_
        refine pn 26 38 (bz 32 134217727) (any_of HT_.out (by kernel_rfl)) ?_
        refine pn 27 39 (bz 32 268435455) (any_of HT_.out (by kernel_rfl)) ?_
        refine pn 28 40 (bz 32 536870911) (any_of HT_.out (by kernel_rfl)) ?_
        refine pn 29 41 (bz 32 1073741823) (any_of HT_.out (by kernel_rfl)) ?_
        refine pn 30 42 (bz 32 2147483647) (any_of HT_.out (by kernel_rfl)) ?_
        refine pq 31 43 (bz 32 4294967295) (any_of HT_.out (by kernel_rfl)) ?_
        refine done_ (done_of HT_.out (by kernel_rfl)) ?_
        try go_wp2
        go_ret
        exact ⟨by first | rfl | (simp [errW_none, errW_some] <;> rfl) | (simp [*, errW_none, errW_some] <;> rfl), by repeat (first | (with_reducible first | exact HB.out | apply below_alloc | apply pw_below_drewN | apply below_drew1 | refine below_set ?_ GE117.out) | exact HB.out)⟩
     ·rw [if_neg c4] at H
      exact absurd H (by simp)
    ·rw [if_neg c3] at H
     exact absurd H (by simp)
   ·rw [if_neg c2] at H
    have c2b0 : decide (x7_1 < (l0.length : Int)) = false := decide_eq_false c2
    clear c2
    obtain rfl := Option.some.inj H
    go_wp2
    go_ret
    exact ⟨by first | rfl | (simp [errW_none, errW_some] <;> rfl) | (simp [*, errW_none, errW_some] <;> rfl), by repeat (first | (with_reducible first | exact HB.out | apply below_alloc | apply pw_below_drewN | apply below_drew1) | exact HB.out)⟩

end Go.Proofs.YtfbockgjhbfidaaGreatDoor.Pr
