/- Texts of this session, cut down to what one claim needs and joined: PrStoreSearchReached. -/
import Derived.Test.YtfbockgjhbfidaaGreatDoorQPr0
import Derived.Test.YtfbockgjhbfidaaGreatDoorQGCmp
-- Written by a program of this session (wip/hook.py) out of the translation. Not trusted: Lean checks it.
namespace Go.Proofs.YtfbockgjhbfidaaGreatDoor.Pr
open Go.RowKit Go.Proofs.YtfbockgjhbfidaaGreatDoorW.PrintWords Go.Proofs.YtfbockgjhbfidaaGreatDoorW.PrintLast Go.Proofs.YtfbockgjhbfidaaGreatDoorW.PrintMore
attribute [local go_sem] max2_int min2_int max_two min_two max_three min_three max_four min_four   -- for this text's walks alone
set_option linter.unusedVariables false
set_option linter.unusedSimpArgs false

/-! ### store_search_reached: function 30 -/
def store_search_reached.f (l0_0 : List (S47)) (l0_1 : List (S44)) (a1 : Int) : Option (Bool) := if 0 ≤ a1 then (if a1 < (l0_0.length : Int) then ((label_Cmp.f ((rd_T47 l0_0 a1).f0) l0_1).bind fun t124 => (some (decide (t124 ≥ 0)))) else (none)) else (none)
def store_search_reached.T1 : Bool × List (List Nat × List Nat) := (true, [([], []), ([0], [0]), ([], []), ([1, 2], [1, 2]), ([3], [3]), ([4], [4]), ([], []), ([6], [6]), ([5, 7], [5, 7]), ([8], [8]), ([9, 8, 0, 1, 2, 3, 4, 5, 6, 7, 8, 9], [9])])
def store_search_reached.B1 : List Nat := [0, 1, 0, 7, 15, 31, 0, 64, 255, 511, 1023]
theorem store_search_reached.tab1 : rtab .any (opsOf Tryz.f30 1) = store_search_reached.T1 := by kernel_rfl
theorem store_search_reached.bits1 : waitsOk store_search_reached.T1.2 store_search_reached.B1 = true := by kernel_rfl
set_option maxHeartbeats 8000000 in
set_option maxRecDepth 100000 in
theorem store_search_reached.calls (A0_0 : Option Addr) (c0_0 : Nat) (l0_0 : List (S47)) (A0_1 : Option Addr) (c0_1 : Nat) (l0_1 : List (S44)) (a1 : Int) (r : Bool) (w : World) (hL_ : Aside0 (LaidAll w)) (hr0_0 : Kd.C k47 w A0_0 l0_0.length l0_0) (hc0_0 : l0_0.length ≤ c0_0) (hr0_1 : Kd.C k44 w A0_1 l0_1.length l0_1) (hc0_1 : l0_1.length ≤ c0_1) (h : store_search_reached.f l0_0 l0_1 a1 = some r) :
  Calls Tryz.prog 30 #[.agg #[.slice A0_0 l0_0.length c0_0, .slice A0_1 l0_1.length c0_1], .int .i64 a1] w fun e w' => e = .returned (.bool r) ∧ Below w.heap.size w w' := by
 have hu58 := Tryz.underlying58
 have HR0_0 := Aside0.mk hr0_0
 have HC0_0 := Aside0.mk hc0_0
 clear hr0_0 hc0_0
 have HR0_1 := Aside0.mk hr0_1
 have HC0_1 := Aside0.mk hc0_1
 clear hr0_1 hc0_1
 have HB := Aside0.mk (Below.refl w.heap.size w)
 have H : (if 0 ≤ a1 then (if a1 < (l0_0.length : Int) then ((label_Cmp.f ((rd_T47 l0_0 a1).f0) l0_1).bind fun t124 => (some (decide (t124 ≥ 0)))) else (none)) else (none)) = some r := h
 clear h
 by_cases c3 : 0 ≤ a1
 ·rw [if_pos c3] at H
  have c3b0 : decide (0 ≤ a1) = true := decide_eq_true c3
  clear c3
  by_cases c4 : a1 < (l0_0.length : Int)
  ·rw [if_pos c4] at H
   have c4b0 : decide (a1 < (l0_0.length : Int)) = true := decide_eq_true c4
   clear c4
   replace H := Option.bind_eq_some_iff.mp H
   obtain ⟨t124, A50, H⟩ := H
   replace H : (some (decide (t124 ≥ 0))) = some r := H
   have A5 := Aside0.mk A50
   clear A50
   obtain rfl := Option.some.inj H
   go_enter Tryz.func30, Tryz.ntmps30
   try go_wp2_with (first | ((with_reducible refine gate_dst (N := 2) rfl ?_); refine box_event ?hg (N := 2) ?hd (cs := #[.slice A0_0 l0_0.length c0_0, .slice A0_1 l0_1.length c0_1]) (t := 58) ?hr ?_; (case hd => rfl); (case hg => rfl); (case hr => first | (go_simp; done) | (go_simp; rfl)); intro gb122 hg w6 hbox hb; have n0_ := Aside0.mk (below_step (by repeat (first | (with_reducible first | exact HB.out | apply below_alloc | apply pw_below_drewN | apply below_drew1) | exact HB.out)) hb); have n1_ := Aside0.mk (hbox); have n2_ := Aside0.mk ((by rw [hg]; exact (below_size (by repeat (first | (with_reducible first | exact HB.out | apply below_alloc | apply pw_below_drewN | apply below_drew1) | exact HB.out))) : w.heap.size ≤ gb122)); have n3_ := Aside0.mk ((by rw [hg]; exact (below_size (by repeat (first | (with_reducible first | exact HB.out | apply below_alloc | apply pw_below_drewN | apply below_drew1) | exact HB.out))) : w.heap.size ≤ gb122)); clear HB; have HB := n0_; have BK122 := n1_; have GW122 := n2_; have GE122 := n3_; clear n0_ n1_ n2_ n3_; clear hb hbox hg))
   have n0_ := Aside0.mk (blk_drew BK122.out)
   have n1_ := Aside0.mk (below_drew1 HB.out)
   clear BK122
   clear HB
   have BK122 := n0_
   have HB := n1_
   clear n0_ n1_
   have p123 : 0 ≤ (a1 : Int) := of_decide_eq_true (by first | (with_reducible assumption) | assumption)
   have q123 : a1 < (l0_0.length : Int) := of_decide_eq_true (by first | (with_reducible assumption) | assumption)
   obtain ⟨ad123, A123_0, c123_0, A123_1, c123_1, e123, hx123_0, hx123_1, hl123_0, hi123_0, hl123_1, hi123_1⟩ := at_T47 HR0_0.out a1 p123 q123
   have hw123_1 := hx123_1
   have hw123_0 := hx123_0
   cases e123
   replace hx123_0 := (HB.out.cell (World.block_lt_of_cell? w _ hx123_0)).trans hx123_0
   replace hx123_1 := (HB.out.cell (World.block_lt_of_cell? w _ hx123_1)).trans hx123_1
   have HR123_0 := Aside0.mk hi123_0
   have HC123_0 := Aside0.mk hl123_0
   clear hi123_0 hl123_0
   have HR123_1 := Aside0.mk hi123_1
   have HC123_1 := Aside0.mk hl123_1
   clear hi123_1 hl123_1
   replace p123 := eq_true p123
   replace q123 := eq_true q123
   refine start_ (n := 11) (S := fun w' => w'.cell? ⟨gb122, 0, none⟩ = some (.slice (some ad123) l0_0.length c0_0) ∧ w'.cell? ⟨gb122, 1, none⟩ = some (.slice A0_1 l0_1.length c0_1) ∧ w'.cell? (ad123.add ((a1).toNat * 2)) = some (.slice A123_0 ((rd_T47 l0_0 a1).f0).length c123_0) ∧ w'.cell? ⟨(ad123.add ((a1).toNat * 2)).block, (ad123.add ((a1).toNat * 2)).off + 1, none⟩ = some (.slice A123_1 ((rd_T47 l0_0 a1).f1).length c123_1)) (ds := []) (bz 11 0) (by kernel_rfl) rfl rfl ⟨(blk_cell BK122.out 0).trans rfl, (blk_cell BK122.out 1).trans rfl, ((HB.out.cell (World.block_lt_of_cell? w _ hw123_0)).trans hw123_0), ((HB.out.cell (World.block_lt_of_cell? w _ hw123_1)).trans hw123_1)⟩ (fun hHeld => ?_); refine with_tabW store_search_reached.tab1 store_search_reached.bits1 (fun HT_ HW_ => ?_)
   generalize w6.drew = w7 at BK122 HB HR123_0 HR123_1 hx123_0 hx123_1 hHeld ⊢
   refine pq 0 5 (bz 11 1) (any_of HT_.out (by kernel_rfl)) ?_
   refine pq 2 7 (bz 11 5) (any_of HT_.out (by kernel_rfl)) ?_
   refine pq 6 11 (bz 11 69) (any_of HT_.out (by kernel_rfl)) ?_
   refine tq 1 6 (bz 11 71) (take_ofW HT_.out HW_.out (by kernel_rfl)) rfl rfl (by rintro w' ⟨s0, s1, s2, s3⟩; go_simp; with_reducible rfl) hHeld ?_
   refine pq 3 8 (bz 11 79) (any_of HT_.out (by kernel_rfl)) ?_
   refine pq 4 9 (bz 11 95) (any_of HT_.out (by kernel_rfl)) ?_
   refine tq 5 10 (bz 11 127) (take_ofW HT_.out HW_.out (by kernel_rfl)) rfl rfl (by rintro w' ⟨s0, s1, s2, s3⟩; go_simp; with_reducible rfl) hHeld ?_
   refine tq 7 12 (bz 11 255) (take_ofW HT_.out HW_.out (by kernel_rfl)) rfl rfl (by rintro w' ⟨s0, s1, s2, s3⟩; go_simp; with_reducible rfl) hHeld ?_
   refine one_ (i := 8) (N := some 13) (bz 11 511) rfl rfl (one_of HT_.out (by kernel_rfl)) (by decide) (fun K hK => ?_)
   refine goes_ Tryz.func28 (by kernel_rfl) rfl #[.slice A123_0 ((rd_T47 l0_0 a1).f0).length c123_0, .slice A0_1 l0_1.length c0_1] (by rfl) rfl rfl (by (try simp only [List.map_toArray, List.map_cons, List.map_nil]); first | done | rfl | (simp only [List.length_drop, List.length_take]; rfl)) ?_
   with_reducible refine (label_Cmp.calls _ _ ((rd_T47 l0_0 a1).f0) _ _ l0_1 t124 _ ?side1 ?side2 ?side3 ?side4 ⟨hL_.out.below (by repeat (first | (with_reducible first | exact HB.out | apply below_alloc | apply pw_below_drewN | apply below_drew1) | exact HB.out))⟩ A5.out).mono ?_
   (case side1 => repeat (first | exact (Kd.C_below HR123_0.out HB.out) | (with_reducible refine Kd.C_alloc ?_ _) | (with_reducible refine Kd.C_drewN ?_ _) | (with_reducible refine Kd.C_drew ?_)))
   (case side2 => exact HC123_0.out)
   (case side3 => repeat (first | exact (Kd.C_below HR0_1.out HB.out) | (with_reducible refine Kd.C_alloc ?_ _) | (with_reducible refine Kd.C_drewN ?_ _) | (with_reducible refine Kd.C_drew ?_)))
   (case side4 => exact HC0_1.out)
   rintro e w8 ⟨rfl, hb⟩
   refine ⟨_, rfl, ?_⟩
   have n0_ := Aside0.mk (blk_below (g := gb122) (o := .cells #[.slice (some ad123) l0_0.length c0_0, .slice A0_1 l0_1.length c0_1] 58 (0, 0)) (by (with_reducible repeat (first | refine blk_drewN ?_ _ | refine blk_drew ?_ | refine blk_alloc ?_ _)); exact BK122.out) hb)
   have n1_ := Aside0.mk (below_step (by repeat (first | (with_reducible first | exact HB.out | apply below_alloc | apply pw_below_drewN | apply below_drew1 | refine below_set ?_ GE122.out) | exact HB.out)) hb)
   clear BK122
   clear HB
   have BK122 := n0_
   have HB := n1_
   clear n0_ n1_
   (try clear hb)
   (try clear hb2)
   (try clear hk)
   (try clear hi)
   refine hK.out _ _ ⟨(blk_cell BK122.out 0).trans rfl, (blk_cell BK122.out 1).trans rfl, ((HB.out.cell (World.block_lt_of_cell? w _ hw123_0)).trans hw123_0), ((HB.out.cell (World.block_lt_of_cell? w _ hw123_1)).trans hw123_1)⟩ (fun hHeld => ?_)
   clear hK K
   refine norm_ (show Act.put _ (some 13) _ = _ by simp only [pu, s0, s1, i64_w, i32_w]; rfl) ?_
   refine pq 9 14 (bz 11 1023) (any_of HT_.out (by kernel_rfl)) ?_
   refine pq 10 4 (bz 11 2047) (any_of HT_.out (by kernel_rfl)) ?_
   refine done_ (done_of HT_.out (by kernel_rfl)) ?_
   try go_wp2
   go_ret
   exact ⟨by first | rfl | (simp [errW_none, errW_some] <;> rfl) | (simp [*, errW_none, errW_some] <;> rfl), by repeat (first | (with_reducible first | exact HB.out | apply below_alloc | apply pw_below_drewN | apply below_drew1 | refine below_set ?_ GE122.out) | exact HB.out)⟩
  ·rw [if_neg c4] at H
   exact absurd H (by simp)
 ·rw [if_neg c3] at H
  exact absurd H (by simp)

end Go.Proofs.YtfbockgjhbfidaaGreatDoor.Pr
