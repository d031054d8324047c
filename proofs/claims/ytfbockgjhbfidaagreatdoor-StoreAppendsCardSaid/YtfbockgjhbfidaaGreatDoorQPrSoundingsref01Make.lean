/- Texts of this session, cut down to what one claim needs and joined: PrSoundingsref01Make. -/
import Derived.Test.YtfbockgjhbfidaaGreatDoorQPr0
import Derived.Test.YtfbockgjhbfidaaGreatDoorQGOrd
import Derived.Test.YtfbockgjhbfidaaGreatDoorQGPr
-- Written by a program of this session (wip/hook.py) out of the translation. Not trusted: Lean checks it.
namespace Go.Proofs.YtfbockgjhbfidaaGreatDoor.Pr
open Go.RowKit Go.Proofs.YtfbockgjhbfidaaGreatDoorW.PrintWords Go.Proofs.YtfbockgjhbfidaaGreatDoorW.PrintLast Go.Proofs.YtfbockgjhbfidaaGreatDoorW.PrintMore
attribute [local go_sem] max2_int min2_int max_two min_two max_three min_three max_four min_four   -- for this text's walks alone
attribute [local go_sem] str_gtr
set_option linter.unusedVariables false
set_option linter.unusedSimpArgs false

/-! ### soundingsref01_Make: function 23 -/
mutual
def soundingsref01_Make.l0 : Nat → List (S44) → List (S44) → Int → Option ((List (S44)) × Bool)
 | 0, _, _, _ => none
 | k + 1, x0, x4, x5 => if x5 < (x0.length : Int) then (if 0 ≤ x5 then ((soundingsref01_IsName.f k ((rd_T44 x0 x5).f0)).bind fun t205 => (if t205 = true then ((soundingsref01_IsValue.f k ((rd_T44 x0 x5).f1)).bind fun t207 => (soundingsref01_Make.j1 k x0 x4 x5 (!t207))) else (soundingsref01_Make.j1 k x0 x4 x5 true))) else (none)) else (if (x4.length : Int) > 16 then (some (([] : List (S44)), false)) else (some (x4, true)))
def soundingsref01_Make.j1 : Nat → List (S44) → List (S44) → Int → Bool → Option ((List (S44)) × Bool)
 | 0, _, _, _, _ => none
 | k + 1, x0, x4, x5, x30 => if x30 = true then (some (([] : List (S44)), false)) else (soundingsref01_Make.l1 k x0 x4 x5 0)
def soundingsref01_Make.l1 : Nat → List (S44) → List (S44) → Int → Int → Option ((List (S44)) × Bool)
 | 0, _, _, _, _ => none
 | k + 1, x0, x4, x5, x6 => if x6 < x5 then (if 0 ≤ x6 then (if x6 < (x0.length : Int) then (if 0 ≤ x5 then (if x5 < (x0.length : Int) then (if ((rd_T44 x0 x6).f0).toList = ((rd_T44 x0 x5).f0).toList then (some (([] : List (S44)), false)) else (soundingsref01_Make.l1 k x0 x4 x5 (wrap64 (x6 + 1)))) else (none)) else (none)) else (none)) else (none)) else (if 0 ≤ x5 then (if x5 < (x0.length : Int) then (if ((rd_T44 x0 x5).f1).toList = ([] : List UInt8) then (soundingsref01_Make.l0 k x0 x4 (wrap64 (x5 + 1))) else (soundingsref01_Make.l2 k x0 x4 x5 (x4.length : Int))) else (none)) else (none))
def soundingsref01_Make.l2 : Nat → List (S44) → List (S44) → Int → Int → Option ((List (S44)) × Bool)
 | 0, _, _, _, _ => none
 | k + 1, x0, x4, x5, x7 => if x7 > 0 then (if 0 ≤ (wrap64 (x7 - 1)) then (if (wrap64 (x7 - 1)) < (x4.length : Int) then (if 0 ≤ x5 then (if x5 < (x0.length : Int) then (if (Op.bytesLess (((rd_T44 x0 x5).f0).toList) (((rd_T44 x4 (wrap64 (x7 - 1))).f0).toList)) = true then (soundingsref01_Make.l2 k x0 x4 x5 (wrap64 (x7 - 1))) else (if 0 ≤ x7 then (if x7 ≤ (x4.length : Int) then ((some (x4.take (x7 : Int).toNat : List (S44))).bind fun y213 => (if ([] : List (S44)).length + y213.length < 4398046511104 then ((some (([] : List (S44)) ++ y213 : List (S44))).bind fun y217 => (if y217.length < 4398046511104 then ((some (y217 ++ [(⟨(rd_T44 x0 x5).f0, (rd_T44 x0 x5).f1⟩ : S44)] : List (S44))).bind fun y221 => ((some (x4.drop (x7 : Int).toNat : List (S44))).bind fun y224 => (if y221.length + y224.length < 4398046511104 then (soundingsref01_Make.l0 k x0 (y221 ++ y224) (wrap64 (x5 + 1))) else (none)))) else (none))) else (none))) else (none)) else (none))) else (none)) else (none)) else (none)) else (none)) else (if 0 ≤ x7 then (if x7 ≤ (x4.length : Int) then ((some (x4.take (x7 : Int).toNat : List (S44))).bind fun y231 => (if ([] : List (S44)).length + y231.length < 4398046511104 then ((some (([] : List (S44)) ++ y231 : List (S44))).bind fun y235 => (if 0 ≤ x5 then (if x5 < (x0.length : Int) then (if y235.length < 4398046511104 then ((some (y235 ++ [(⟨(rd_T44 x0 x5).f0, (rd_T44 x0 x5).f1⟩ : S44)] : List (S44))).bind fun y239 => ((some (x4.drop (x7 : Int).toNat : List (S44))).bind fun y242 => (if y239.length + y242.length < 4398046511104 then (soundingsref01_Make.l0 k x0 (y239 ++ y242) (wrap64 (x5 + 1))) else (none)))) else (none)) else (none)) else (none))) else (none))) else (none)) else (none))
end
def soundingsref01_Make.f (k : Nat) (l0 : List (S44)) : Option ((List (S44)) × Bool) := soundingsref01_Make.l0 k l0 ([] : List (S44)) 0
theorem soundingsref01_Make.mono_l : ∀ k, (∀ y0 y1 y2, LeO (soundingsref01_Make.l0 k y0 y1 y2) (soundingsref01_Make.l0 (k + 1) y0 y1 y2)) ∧ (∀ y0 y1 y2 y3, LeO (soundingsref01_Make.j1 k y0 y1 y2 y3) (soundingsref01_Make.j1 (k + 1) y0 y1 y2 y3)) ∧ (∀ y0 y1 y2 y3, LeO (soundingsref01_Make.l1 k y0 y1 y2 y3) (soundingsref01_Make.l1 (k + 1) y0 y1 y2 y3)) ∧ (∀ y0 y1 y2 y3, LeO (soundingsref01_Make.l2 k y0 y1 y2 y3) (soundingsref01_Make.l2 (k + 1) y0 y1 y2 y3))
 | 0 => ⟨fun _ _ _ r h => by simp [soundingsref01_Make.l0] at h, fun _ _ _ _ r h => by simp [soundingsref01_Make.j1] at h, fun _ _ _ _ r h => by simp [soundingsref01_Make.l1] at h, fun _ _ _ _ r h => by simp [soundingsref01_Make.l2] at h⟩
 | k + 1 => by
  obtain ⟨ih0, ih1, ih2, ih3⟩ := soundingsref01_Make.mono_l k
  refine ⟨?_, ?_, ?_, ?_⟩
  ·intro y0 y1 y2
   unfold soundingsref01_Make.l0
   repeat' first
   | (with_reducible exact ih0 _ _ _)
   | (with_reducible exact ih1 _ _ _ _)
   | (with_reducible exact ih2 _ _ _ _)
   | (with_reducible exact ih3 _ _ _ _)
   | (with_reducible exact soundingsref01_IsName.mono _ _)
   | (with_reducible exact soundingsref01_IsValue.mono _ _)
   | (with_reducible exact LeO.refl _)
   | (with_reducible exact LeO.none _)
   | (with_reducible refine LeO.ite ?_ ?_)
   | (with_reducible refine LeO.bind ?_ (fun _ => ?_))
   | exact ih0 _ _ _
   | exact ih1 _ _ _ _
   | exact ih2 _ _ _ _
   | exact ih3 _ _ _ _
   | exact soundingsref01_IsName.mono _ _
   | exact soundingsref01_IsValue.mono _ _
   | exact LeO.none _
   | refine LeO.ite ?_ ?_
   | refine LeO.bind ?_ (fun _ => ?_)
  ·intro y0 y1 y2 y3
   unfold soundingsref01_Make.j1
   repeat' first
   | (with_reducible exact ih0 _ _ _)
   | (with_reducible exact ih1 _ _ _ _)
   | (with_reducible exact ih2 _ _ _ _)
   | (with_reducible exact ih3 _ _ _ _)
   | (with_reducible exact soundingsref01_IsName.mono _ _)
   | (with_reducible exact soundingsref01_IsValue.mono _ _)
   | (with_reducible exact LeO.refl _)
   | (with_reducible exact LeO.none _)
   | (with_reducible refine LeO.ite ?_ ?_)
   | (with_reducible refine LeO.bind ?_ (fun _ => ?_))
   | exact ih0 _ _ _
   | exact ih1 _ _ _ _
   | exact ih2 _ _ _ _
   | exact ih3 _ _ _ _
   | exact soundingsref01_IsName.mono _ _
   | exact soundingsref01_IsValue.mono _ _
   | exact LeO.none _
   | refine LeO.ite ?_ ?_
   | refine LeO.bind ?_ (fun _ => ?_)
  ·intro y0 y1 y2 y3
   unfold soundingsref01_Make.l1
   repeat' first
   | (with_reducible exact ih0 _ _ _)
   | (with_reducible exact ih1 _ _ _ _)
   | (with_reducible exact ih2 _ _ _ _)
   | (with_reducible exact ih3 _ _ _ _)
   | (with_reducible exact soundingsref01_IsName.mono _ _)
   | (with_reducible exact soundingsref01_IsValue.mono _ _)
   | (with_reducible exact LeO.refl _)
   | (with_reducible exact LeO.none _)
   | (with_reducible refine LeO.ite ?_ ?_)
   | (with_reducible refine LeO.bind ?_ (fun _ => ?_))
   | exact ih0 _ _ _
   | exact ih1 _ _ _ _
   | exact ih2 _ _ _ _
   | exact ih3 _ _ _ _
   | exact soundingsref01_IsName.mono _ _
   | exact soundingsref01_IsValue.mono _ _
   | exact LeO.none _
   | refine LeO.ite ?_ ?_
   | refine LeO.bind ?_ (fun _ => ?_)
  ·intro y0 y1 y2 y3
   unfold soundingsref01_Make.l2
   repeat' first
   | (with_reducible exact ih0 _ _ _)
   | (with_reducible exact ih1 _ _ _ _)
   | (with_reducible exact ih2 _ _ _ _)
   | (with_reducible exact ih3 _ _ _ _)
   | (with_reducible exact soundingsref01_IsName.mono _ _)
   | (with_reducible exact soundingsref01_IsValue.mono _ _)
   | (with_reducible exact LeO.refl _)
   | (with_reducible exact LeO.none _)
   | (with_reducible refine LeO.ite ?_ ?_)
   | (with_reducible refine LeO.bind ?_ (fun _ => ?_))
   | exact ih0 _ _ _
   | exact ih1 _ _ _ _
   | exact ih2 _ _ _ _
   | exact ih3 _ _ _ _
   | exact soundingsref01_IsName.mono _ _
   | exact soundingsref01_IsValue.mono _ _
   | exact LeO.none _
   | refine LeO.ite ?_ ?_
   | refine LeO.bind ?_ (fun _ => ?_)
theorem soundingsref01_Make.mono : ∀ a0 k, LeO (soundingsref01_Make.f k a0) (soundingsref01_Make.f (k + 1) a0) := by
 intro a0 k
 obtain ⟨ih0, ih1, ih2, ih3⟩ := soundingsref01_Make.mono_l k
 unfold soundingsref01_Make.f
 repeat' first
   | (with_reducible exact ih0 _ _ _)
   | (with_reducible exact ih1 _ _ _ _)
   | (with_reducible exact ih2 _ _ _ _)
   | (with_reducible exact ih3 _ _ _ _)
   | (with_reducible exact soundingsref01_IsName.mono _ _)
   | (with_reducible exact soundingsref01_IsValue.mono _ _)
   | (with_reducible exact LeO.refl _)
   | (with_reducible exact LeO.none _)
   | (with_reducible refine LeO.ite ?_ ?_)
   | (with_reducible refine LeO.bind ?_ (fun _ => ?_))
   | exact ih0 _ _ _
   | exact ih1 _ _ _ _
   | exact ih2 _ _ _ _
   | exact ih3 _ _ _ _
   | exact soundingsref01_IsName.mono _ _
   | exact soundingsref01_IsValue.mono _ _
   | exact LeO.none _
   | refine LeO.ite ?_ ?_
   | refine LeO.bind ?_ (fun _ => ?_)
set_option maxHeartbeats 8000000 in
set_option maxRecDepth 100000 in
theorem soundingsref01_Make.calls (k : Nat) (A0 : Option Addr) (c0 : Nat) (l0 : List (S44)) (r1 : List (S44)) (r2 : Bool) (w : World) (hr0 : Kd.C k44 w A0 l0.length l0) (hc0 : l0.length ≤ c0) (h : soundingsref01_Make.f k l0 = some (r1, r2)) :
  Calls Tryz.prog 23 #[.slice A0 l0.length c0] w fun e w' => ∃ v0_ : Value, e = .returned (.tuple #[v0_, .bool r2]) ∧ Kd.R k44 44 w' w.heap.size (fun _ => True) v0_ r1 ∧ Below w.heap.size w w' := by
 have hu44 := Tryz.underlying44
 have HR0 := Aside0.mk hr0
 have HC0 := Aside0.mk hc0
 clear hr0 hc0
 have HB := Aside0.mk (Below.refl w.heap.size w)
 have H : (soundingsref01_Make.l0 k l0 ([] : List (S44)) 0) = some (r1, r2) := h
 clear h
 have H' := Aside0.mk H
 clear H
 go_enter Tryz.func23, Tryz.ntmps23
 go_wp2
 repeat (go_quiet (fail); try go_wp2)
 go_loopg [4, 5] k (fun kq v4 v5 w' => ∃ (x4_1 : List (S44)) (x5_1 : Int), v5 = .int .i64 x5_1 ∧ Aside0 (soundingsref01_Make.l0 kq l0 x4_1 x5_1 = some (r1, r2)) ∧ Aside0 (kq ≤ k) ∧ Aside0 (Kd.R k44 44 w' w.heap.size (fun _ => True) v4 x4_1) ∧ Aside0 (Below w.heap.size w w'))
 case atStart => exact ⟨(([] : List (S44))), (0), (by first | rfl | (simp; done) | (simp [*]; done)), H', ⟨Nat.le_refl _⟩, ⟨by first | exact Kd.R_nil _ _ _ _ _ | exact Kd.N_nil _ _ _ _ _ | exact Kd.V_nil _ _ _ _ _ | exact Kd.Q_nil _ _ _ _ _ | exact Kd.S_nil _ _ _ _ _⟩, ⟨by repeat (first | (with_reducible first | exact HB.out | apply below_alloc | apply pw_below_drewN | apply below_drew1) | exact HB.out)⟩⟩
 case round =>
  clear H'
  obtain ⟨x4_1, x5_1, rfl, HA, HK1, HO_4, HB⟩ := hrel
  cases gk with
  | zero => exact absurd HA.out (by simp [soundingsref01_Make.l0])
  | succ k1 =>
   have H := HA.out
   clear HA
   simp only [soundingsref01_Make.l0] at H
   by_cases c2 : x5_1 < (l0.length : Int)
   ·rw [if_pos c2] at H
    have c2b0 : decide (x5_1 < (l0.length : Int)) = true := decide_eq_true c2
    clear c2
    have HC3 := Aside0.mk H
    clear H
    go_upto_region 5 with (fail)
    repeat (go_quiet (fail); go_upto_region 5 with (fail))
    go_cut [30] (fun v30 wc => ∃ (kq : Nat) (x30_2 : Bool), v30 = .bool x30_2 ∧ Aside0 (soundingsref01_Make.j1 kq l0 x4_1 x5_1 x30_2 = some (r1, r2)) ∧ Aside0 (kq ≤ k1) ∧ Aside0 (Kd.R k44 44 wc w.heap.size (fun _ => True) u4 x4_1) ∧ Aside0 (Below w.heap.size w wc))
    case first =>
     have H := HC3.out
     clear HC3
     by_cases c4 : 0 ≤ x5_1
     ·rw [if_pos c4] at H
      have c4b0 : decide (0 ≤ x5_1) = true := decide_eq_true c4
      clear c4
      (first | rw [c4b0] | (simp only [i64_w, i32_w]; rw [c4b0]) | skip)
      replace H := Option.bind_eq_some_iff.mp H
      obtain ⟨t205, A50, H⟩ := H
      replace H : (if t205 = true then ((soundingsref01_IsValue.f k1 ((rd_T44 l0 x5_1).f1)).bind fun t207 => (soundingsref01_Make.j1 k1 l0 x4_1 x5_1 (!t207))) else (soundingsref01_Make.j1 k1 l0 x4_1 x5_1 true)) = some (r1, r2) := H
      have A5 := Aside0.mk A50
      clear A50
      by_cases c6 : t205 = true
      ·subst c6
       have H1 : ((soundingsref01_IsValue.f k1 ((rd_T44 l0 x5_1).f1)).bind fun t207 => (soundingsref01_Make.j1 k1 l0 x4_1 x5_1 (!t207))) = some (r1, r2) := by rw [if_pos rfl] at H; exact H
       clear H
       have H := H1
       clear H1
       replace H := Option.bind_eq_some_iff.mp H
       obtain ⟨t207, A70, H⟩ := H
       replace H : (soundingsref01_Make.j1 k1 l0 x4_1 x5_1 (!t207)) = some (r1, r2) := H
       have A7 := Aside0.mk A70
       clear A70
       have H' := Aside0.mk H
       clear H
       have p204 : 0 ≤ (x5_1 : Int) := of_decide_eq_true (by first | (with_reducible assumption) | assumption)
       have q204 : x5_1 < (l0.length : Int) := of_decide_eq_true (by first | (with_reducible assumption) | assumption)
       obtain ⟨ad204, e204, hx204_0, hx204_1⟩ := at_T44 HR0.out x5_1 p204 q204
       cases e204
       replace hx204_0 := (HB.out.cell (World.block_lt_of_cell? w _ hx204_0)).trans hx204_0
       replace hx204_1 := (HB.out.cell (World.block_lt_of_cell? w _ hx204_1)).trans hx204_1
       replace p204 := eq_true p204
       replace q204 := eq_true q204
       go_wp2_with (first | (go_at_call 46; (with_reducible refine (soundingsref01_IsName.calls k1 ((rd_T44 l0 x5_1).f0) true _ A5.out).mono ?_); rintro e w' ⟨rfl, ⟨nd, rfl⟩⟩; (try first | exact ⟨rfl, _, World.drewN_drewN _ _ _⟩ | exact ⟨rfl, _, Eq.trans (World.drewN_drewN _ _ _) (congrArg (World.drewN _) (Nat.add_assoc _ _ _))⟩); have p206 : 0 ≤ (x5_1 : Int) := of_decide_eq_true (by first | (with_reducible assumption) | assumption); have q206 : x5_1 < (l0.length : Int) := of_decide_eq_true (by first | (with_reducible assumption) | assumption); obtain ⟨ad206, e206, hx206_0, hx206_1⟩ := at_T44 HR0.out x5_1 p206 q206; obtain rfl : ad204 = ad206 := (by injection e206); replace hx206_0 := (HB.out.cell (World.block_lt_of_cell? w _ hx206_0)).trans hx206_0; replace hx206_1 := (HB.out.cell (World.block_lt_of_cell? w _ hx206_1)).trans hx206_1; replace p206 := eq_true p206; replace q206 := eq_true q206) | (go_at_call 47; (with_reducible refine (soundingsref01_IsValue.calls k1 ((rd_T44 l0 x5_1).f1) t207 _ A7.out).mono ?_); rintro e w' ⟨rfl, ⟨nd, rfl⟩⟩; (try first | exact ⟨rfl, _, World.drewN_drewN _ _ _⟩ | exact ⟨rfl, _, Eq.trans (World.drewN_drewN _ _ _) (congrArg (World.drewN _) (Nat.add_assoc _ _ _))⟩)))
       repeat (go_quiet (first | (go_at_call 46; (with_reducible refine (soundingsref01_IsName.calls k1 ((rd_T44 l0 x5_1).f0) true _ A5.out).mono ?_); rintro e w' ⟨rfl, ⟨nd, rfl⟩⟩; (try first | exact ⟨rfl, _, World.drewN_drewN _ _ _⟩ | exact ⟨rfl, _, Eq.trans (World.drewN_drewN _ _ _) (congrArg (World.drewN _) (Nat.add_assoc _ _ _))⟩); have p206 : 0 ≤ (x5_1 : Int) := of_decide_eq_true (by first | (with_reducible assumption) | assumption); have q206 : x5_1 < (l0.length : Int) := of_decide_eq_true (by first | (with_reducible assumption) | assumption); obtain ⟨ad206, e206, hx206_0, hx206_1⟩ := at_T44 HR0.out x5_1 p206 q206; obtain rfl : ad204 = ad206 := (by injection e206); replace hx206_0 := (HB.out.cell (World.block_lt_of_cell? w _ hx206_0)).trans hx206_0; replace hx206_1 := (HB.out.cell (World.block_lt_of_cell? w _ hx206_1)).trans hx206_1; replace p206 := eq_true p206; replace q206 := eq_true q206) | (go_at_call 47; (with_reducible refine (soundingsref01_IsValue.calls k1 ((rd_T44 l0 x5_1).f1) t207 _ A7.out).mono ?_); rintro e w' ⟨rfl, ⟨nd, rfl⟩⟩; (try first | exact ⟨rfl, _, World.drewN_drewN _ _ _⟩ | exact ⟨rfl, _, Eq.trans (World.drewN_drewN _ _ _) (congrArg (World.drewN _) (Nat.add_assoc _ _ _))⟩))); try go_wp2_with (first | (go_at_call 46; (with_reducible refine (soundingsref01_IsName.calls k1 ((rd_T44 l0 x5_1).f0) true _ A5.out).mono ?_); rintro e w' ⟨rfl, ⟨nd, rfl⟩⟩; (try first | exact ⟨rfl, _, World.drewN_drewN _ _ _⟩ | exact ⟨rfl, _, Eq.trans (World.drewN_drewN _ _ _) (congrArg (World.drewN _) (Nat.add_assoc _ _ _))⟩); have p206 : 0 ≤ (x5_1 : Int) := of_decide_eq_true (by first | (with_reducible assumption) | assumption); have q206 : x5_1 < (l0.length : Int) := of_decide_eq_true (by first | (with_reducible assumption) | assumption); obtain ⟨ad206, e206, hx206_0, hx206_1⟩ := at_T44 HR0.out x5_1 p206 q206; obtain rfl : ad204 = ad206 := (by injection e206); replace hx206_0 := (HB.out.cell (World.block_lt_of_cell? w _ hx206_0)).trans hx206_0; replace hx206_1 := (HB.out.cell (World.block_lt_of_cell? w _ hx206_1)).trans hx206_1; replace p206 := eq_true p206; replace q206 := eq_true q206) | (go_at_call 47; (with_reducible refine (soundingsref01_IsValue.calls k1 ((rd_T44 l0 x5_1).f1) t207 _ A7.out).mono ?_); rintro e w' ⟨rfl, ⟨nd, rfl⟩⟩; (try first | exact ⟨rfl, _, World.drewN_drewN _ _ _⟩ | exact ⟨rfl, _, Eq.trans (World.drewN_drewN _ _ _) (congrArg (World.drewN _) (Nat.add_assoc _ _ _))⟩))))
       go_meet
       case rel => exact ⟨_, (!t207), (by first | rfl | (simp; done) | (simp [*]; done)), H', ⟨by have := HK1.out; first | omega | exact Nat.le_refl _⟩, ⟨by (with_reducible repeat (first | apply Kd.R_alloc | apply Kd.R_drewN | apply Kd.R_drew)); exact HO_4.out⟩, ⟨by repeat (first | (with_reducible first | exact HB.out | apply below_alloc | apply pw_below_drewN | apply below_drew1) | exact HB.out)⟩⟩
      ·replace c6 := Bool.eq_false_iff.mpr c6
       subst c6
       have H1 : (soundingsref01_Make.j1 k1 l0 x4_1 x5_1 true) = some (r1, r2) := by rw [if_neg (show ¬ (false = true) by decide)] at H; exact H
       clear H
       have H := H1
       clear H1
       have H' := Aside0.mk H
       clear H
       have p204 : 0 ≤ (x5_1 : Int) := of_decide_eq_true (by first | (with_reducible assumption) | assumption)
       have q204 : x5_1 < (l0.length : Int) := of_decide_eq_true (by first | (with_reducible assumption) | assumption)
       obtain ⟨ad204, e204, hx204_0, hx204_1⟩ := at_T44 HR0.out x5_1 p204 q204
       cases e204
       replace hx204_0 := (HB.out.cell (World.block_lt_of_cell? w _ hx204_0)).trans hx204_0
       replace hx204_1 := (HB.out.cell (World.block_lt_of_cell? w _ hx204_1)).trans hx204_1
       replace p204 := eq_true p204
       replace q204 := eq_true q204
       go_wp2_with (first | (go_at_call 46; (with_reducible refine (soundingsref01_IsName.calls k1 ((rd_T44 l0 x5_1).f0) false _ A5.out).mono ?_); rintro e w' ⟨rfl, ⟨nd, rfl⟩⟩; (try first | exact ⟨rfl, _, World.drewN_drewN _ _ _⟩ | exact ⟨rfl, _, Eq.trans (World.drewN_drewN _ _ _) (congrArg (World.drewN _) (Nat.add_assoc _ _ _))⟩)))
       repeat (go_quiet (first | (go_at_call 46; (with_reducible refine (soundingsref01_IsName.calls k1 ((rd_T44 l0 x5_1).f0) false _ A5.out).mono ?_); rintro e w' ⟨rfl, ⟨nd, rfl⟩⟩; (try first | exact ⟨rfl, _, World.drewN_drewN _ _ _⟩ | exact ⟨rfl, _, Eq.trans (World.drewN_drewN _ _ _) (congrArg (World.drewN _) (Nat.add_assoc _ _ _))⟩))); try go_wp2_with (first | (go_at_call 46; (with_reducible refine (soundingsref01_IsName.calls k1 ((rd_T44 l0 x5_1).f0) false _ A5.out).mono ?_); rintro e w' ⟨rfl, ⟨nd, rfl⟩⟩; (try first | exact ⟨rfl, _, World.drewN_drewN _ _ _⟩ | exact ⟨rfl, _, Eq.trans (World.drewN_drewN _ _ _) (congrArg (World.drewN _) (Nat.add_assoc _ _ _))⟩))))
       go_meet
       case rel => exact ⟨_, (true), (by first | rfl | (simp; done) | (simp [*]; done)), H', ⟨by have := HK1.out; first | omega | exact Nat.le_refl _⟩, ⟨by (with_reducible repeat (first | apply Kd.R_alloc | apply Kd.R_drewN | apply Kd.R_drew)); exact HO_4.out⟩, ⟨by repeat (first | (with_reducible first | exact HB.out | apply below_alloc | apply pw_below_drewN | apply below_drew1) | exact HB.out)⟩⟩
     ·rw [if_neg c4] at H
      exact absurd H (by simp)
    case rest =>
     clear HC3
     try clear c2
     try clear c2b0
     try clear p2
     try clear q2
     try clear hx2
     try clear c4
     try clear c4b0
     try clear c6
     try clear hx204_0
     try clear hx204_1
     try clear hx206_0
     try clear hx206_1
     try clear p204
     try clear p206
     try clear q204
     try clear q206
     obtain ⟨kq, x30_2, rfl, HA, HJ2, HO_4, HB⟩ := hcut
     cases kq with
     | zero => exact absurd HA.out (by simp [soundingsref01_Make.j1])
     | succ kj2 =>
      have H := HA.out
      clear HA
      simp only [soundingsref01_Make.j1] at H
      by_cases c8 : x30_2 = true
      ·subst c8
       have H1 : (some (([] : List (S44)), false)) = some (r1, r2) := by rw [if_pos rfl] at H; exact H
       clear H
       have H := H1
       clear H1
       simp only [Option.some.injEq, Prod.mk.injEq] at H
       obtain ⟨rfl, rfl⟩ := H
       go_wp2
       repeat (go_quiet (fail); try go_wp2)
       go_ret2
       exact ⟨_, by first | rfl | (simp [errW_none, errW_some] <;> rfl) | (simp [*, errW_none, errW_some] <;> rfl), by first | exact Kd.R_nil _ _ _ _ _ | exact Kd.N_nil _ _ _ _ _ | exact Kd.V_nil _ _ _ _ _ | exact Kd.Q_nil _ _ _ _ _ | exact Kd.S_nil _ _ _ _ _, by repeat (first | (with_reducible first | exact HB.out | apply below_alloc | apply pw_below_drewN | apply below_drew1) | exact HB.out)⟩
      ·replace c8 := Bool.eq_false_iff.mpr c8
       subst c8
       have H1 : (soundingsref01_Make.l1 kj2 l0 x4_1 x5_1 0) = some (r1, r2) := by rw [if_neg (show ¬ (false = true) by decide)] at H; exact H
       clear H
       have H := H1
       clear H1
       have H' := Aside0.mk H
       clear H
       go_wp2
       repeat (go_quiet (fail); try go_wp2)
       go_loopg [6] kj2 (fun kq v6 w' => ∃ (x6_3 : Int), v6 = .int .i64 x6_3 ∧ Aside0 (soundingsref01_Make.l1 kq l0 x4_1 x5_1 x6_3 = some (r1, r2)) ∧ Aside0 (kq ≤ kj2) ∧ Aside0 (Kd.R k44 44 w' w.heap.size (fun _ => True) u4 x4_1) ∧ Aside0 (Below w.heap.size w w'))
       case atStart => exact ⟨(0), (by first | rfl | (simp; done) | (simp [*]; done)), H', ⟨Nat.le_refl _⟩, ⟨by (with_reducible repeat (first | apply Kd.R_alloc | apply Kd.R_drewN | apply Kd.R_drew)); exact HO_4.out⟩, ⟨by repeat (first | (with_reducible first | exact HB.out | apply below_alloc | apply pw_below_drewN | apply below_drew1) | exact HB.out)⟩⟩
       case round =>
        clear H'
        try clear c2
        try clear c2b0
        try clear p2
        try clear q2
        try clear hx2
        try clear c4
        try clear c4b0
        try clear c6
        try clear c8
        try clear hx204_0
        try clear hx204_1
        try clear hx206_0
        try clear hx206_1
        try clear p2
        try clear p204
        try clear p206
        try clear q2
        try clear q204
        try clear q206
        obtain ⟨x6_3, rfl, HA, HK3, HO_4, HB⟩ := hrel
        cases gk with
        | zero => exact absurd HA.out (by simp [soundingsref01_Make.l1])
        | succ k3 =>
         have H := HA.out
         clear HA
         simp only [soundingsref01_Make.l1] at H
         by_cases c9 : x6_3 < x5_1
         ·rw [if_pos c9] at H
          have c9b0 : decide (x6_3 < x5_1) = true := decide_eq_true c9
          clear c9
          by_cases c10 : 0 ≤ x6_3
          ·rw [if_pos c10] at H
           have c10b0 : decide (0 ≤ x6_3) = true := decide_eq_true c10
           clear c10
           by_cases c11 : x6_3 < (l0.length : Int)
           ·rw [if_pos c11] at H
            have c11b0 : decide (x6_3 < (l0.length : Int)) = true := decide_eq_true c11
            clear c11
            by_cases c12 : 0 ≤ x5_1
            ·rw [if_pos c12] at H
             have c12b0 : decide (0 ≤ x5_1) = true := decide_eq_true c12
             clear c12
             by_cases c13 : x5_1 < (l0.length : Int)
             ·rw [if_pos c13] at H
              have c13b0 : decide (x5_1 < (l0.length : Int)) = true := decide_eq_true c13
              clear c13
              by_cases c14 : ((rd_T44 l0 x6_3).f0).toList = ((rd_T44 l0 x5_1).f0).toList
              ·rw [if_pos c14] at H
               have c14b0 : (((rd_T44 l0 x6_3).f0).toList == ((rd_T44 l0 x5_1).f0).toList) = true := beq_iff_eq.mpr c14
               have c14b1 : (((rd_T44 l0 x6_3).f0).toList != ((rd_T44 l0 x5_1).f0).toList) = false := bne_eq_false_iff_eq.mpr c14
               clear c14
               simp only [Option.some.injEq, Prod.mk.injEq] at H
               obtain ⟨rfl, rfl⟩ := H
               have p208 : 0 ≤ (x6_3 : Int) := of_decide_eq_true (by first | (with_reducible assumption) | assumption)
               have q208 : x6_3 < (l0.length : Int) := of_decide_eq_true (by first | (with_reducible assumption) | assumption)
               obtain ⟨ad208, e208, hx208_0, hx208_1⟩ := at_T44 HR0.out x6_3 p208 q208
               cases e208
               replace hx208_0 := (HB.out.cell (World.block_lt_of_cell? w _ hx208_0)).trans hx208_0
               replace hx208_1 := (HB.out.cell (World.block_lt_of_cell? w _ hx208_1)).trans hx208_1
               replace p208 := eq_true p208
               replace q208 := eq_true q208
               have p209 : 0 ≤ (x5_1 : Int) := of_decide_eq_true (by first | (with_reducible assumption) | assumption)
               have q209 : x5_1 < (l0.length : Int) := of_decide_eq_true (by first | (with_reducible assumption) | assumption)
               obtain ⟨ad209, e209, hx209_0, hx209_1⟩ := at_T44 HR0.out x5_1 p209 q209
               obtain rfl : ad208 = ad209 := (by injection e209)
               replace hx209_0 := (HB.out.cell (World.block_lt_of_cell? w _ hx209_0)).trans hx209_0
               replace hx209_1 := (HB.out.cell (World.block_lt_of_cell? w _ hx209_1)).trans hx209_1
               replace p209 := eq_true p209
               replace q209 := eq_true q209
               go_wp2
               repeat (go_quiet (fail); try go_wp2)
               go_ret2
               exact ⟨_, by first | rfl | (simp [errW_none, errW_some] <;> rfl) | (simp [*, errW_none, errW_some] <;> rfl), by first | exact Kd.R_nil _ _ _ _ _ | exact Kd.N_nil _ _ _ _ _ | exact Kd.V_nil _ _ _ _ _ | exact Kd.Q_nil _ _ _ _ _ | exact Kd.S_nil _ _ _ _ _, by repeat (first | (with_reducible first | exact HB.out | apply below_alloc | apply pw_below_drewN | apply below_drew1) | exact HB.out)⟩
              ·rw [if_neg c14] at H
               have c14b0 : (((rd_T44 l0 x6_3).f0).toList == ((rd_T44 l0 x5_1).f0).toList) = false := beq_eq_false_iff_ne.mpr c14
               have c14b1 : (((rd_T44 l0 x6_3).f0).toList != ((rd_T44 l0 x5_1).f0).toList) = true := bne_iff_ne.mpr c14
               have H' := Aside0.mk H
               clear H
               have p208 : 0 ≤ (x6_3 : Int) := of_decide_eq_true (by first | (with_reducible assumption) | assumption)
               have q208 : x6_3 < (l0.length : Int) := of_decide_eq_true (by first | (with_reducible assumption) | assumption)
               obtain ⟨ad208, e208, hx208_0, hx208_1⟩ := at_T44 HR0.out x6_3 p208 q208
               cases e208
               replace hx208_0 := (HB.out.cell (World.block_lt_of_cell? w _ hx208_0)).trans hx208_0
               replace hx208_1 := (HB.out.cell (World.block_lt_of_cell? w _ hx208_1)).trans hx208_1
               replace p208 := eq_true p208
               replace q208 := eq_true q208
               have p209 : 0 ≤ (x5_1 : Int) := of_decide_eq_true (by first | (with_reducible assumption) | assumption)
               have q209 : x5_1 < (l0.length : Int) := of_decide_eq_true (by first | (with_reducible assumption) | assumption)
               obtain ⟨ad209, e209, hx209_0, hx209_1⟩ := at_T44 HR0.out x5_1 p209 q209
               obtain rfl : ad208 = ad209 := (by injection e209)
               replace hx209_0 := (HB.out.cell (World.block_lt_of_cell? w _ hx209_0)).trans hx209_0
               replace hx209_1 := (HB.out.cell (World.block_lt_of_cell? w _ hx209_1)).trans hx209_1
               replace p209 := eq_true p209
               replace q209 := eq_true q209
               go_wp2
               repeat (go_quiet (fail); try go_wp2)
               go_roundg k3
               case measure => have := HK1.out; have := HJ2.out; have := HK3.out; omega
               case rel => exact ⟨(wrap64 (x6_3 + 1)), (by first | rfl | (simp; done) | (simp [*]; done)), H', ⟨by have := HK1.out; have := HJ2.out; have := HK3.out; omega⟩, ⟨by (with_reducible repeat (first | apply Kd.R_alloc | apply Kd.R_drewN | apply Kd.R_drew)); exact HO_4.out⟩, ⟨by repeat (first | (with_reducible first | exact HB.out | apply below_alloc | apply pw_below_drewN | apply below_drew1) | exact HB.out)⟩⟩
             ·rw [if_neg c13] at H
              exact absurd H (by simp)
            ·rw [if_neg c12] at H
             exact absurd H (by simp)
           ·rw [if_neg c11] at H
            exact absurd H (by simp)
          ·rw [if_neg c10] at H
           exact absurd H (by simp)
         ·rw [if_neg c9] at H
          have c9b0 : decide (x6_3 < x5_1) = false := decide_eq_false c9
          clear c9
          by_cases c15 : 0 ≤ x5_1
          ·rw [if_pos c15] at H
           have c15b0 : decide (0 ≤ x5_1) = true := decide_eq_true c15
           clear c15
           by_cases c16 : x5_1 < (l0.length : Int)
           ·rw [if_pos c16] at H
            have c16b0 : decide (x5_1 < (l0.length : Int)) = true := decide_eq_true c16
            clear c16
            by_cases c17 : ((rd_T44 l0 x5_1).f1).toList = ([] : List UInt8)
            ·rw [if_pos c17] at H
             have c17b0 : (((rd_T44 l0 x5_1).f1).toList == ([] : List UInt8)) = true := beq_iff_eq.mpr c17
             have c17b1 : (((rd_T44 l0 x5_1).f1).toList != ([] : List UInt8)) = false := bne_eq_false_iff_eq.mpr c17
             clear c17
             have H' := Aside0.mk H
             clear H
             have p210 : 0 ≤ (x5_1 : Int) := of_decide_eq_true (by first | (with_reducible assumption) | assumption)
             have q210 : x5_1 < (l0.length : Int) := of_decide_eq_true (by first | (with_reducible assumption) | assumption)
             obtain ⟨ad210, e210, hx210_0, hx210_1⟩ := at_T44 HR0.out x5_1 p210 q210
             cases e210
             replace hx210_0 := (HB.out.cell (World.block_lt_of_cell? w _ hx210_0)).trans hx210_0
             replace hx210_1 := (HB.out.cell (World.block_lt_of_cell? w _ hx210_1)).trans hx210_1
             replace p210 := eq_true p210
             replace q210 := eq_true q210
             go_wp2
             repeat (go_quiet (fail); try go_wp2)
             go_roundg k3
             case measure => have := HK1.out; have := HJ2.out; have := HK3.out; omega
             case rel => exact ⟨(x4_1), (wrap64 (x5_1 + 1)), (by first | rfl | (simp; done) | (simp [*]; done)), H', ⟨by have := HK1.out; have := HJ2.out; have := HK3.out; omega⟩, ⟨by (with_reducible repeat (first | apply Kd.R_alloc | apply Kd.R_drewN | apply Kd.R_drew)); exact HO_4.out⟩, ⟨by repeat (first | (with_reducible first | exact HB.out | apply below_alloc | apply pw_below_drewN | apply below_drew1) | exact HB.out)⟩⟩
            ·rw [if_neg c17] at H
             have c17b0 : (((rd_T44 l0 x5_1).f1).toList == ([] : List UInt8)) = false := beq_eq_false_iff_ne.mpr c17
             have c17b1 : (((rd_T44 l0 x5_1).f1).toList != ([] : List UInt8)) = true := bne_iff_ne.mpr c17
             have H' := Aside0.mk H
             clear H
             have p210 : 0 ≤ (x5_1 : Int) := of_decide_eq_true (by first | (with_reducible assumption) | assumption)
             have q210 : x5_1 < (l0.length : Int) := of_decide_eq_true (by first | (with_reducible assumption) | assumption)
             obtain ⟨ad210, e210, hx210_0, hx210_1⟩ := at_T44 HR0.out x5_1 p210 q210
             cases e210
             replace hx210_0 := (HB.out.cell (World.block_lt_of_cell? w _ hx210_0)).trans hx210_0
             replace hx210_1 := (HB.out.cell (World.block_lt_of_cell? w _ hx210_1)).trans hx210_1
             replace p210 := eq_true p210
             replace q210 := eq_true q210
             obtain ⟨Ao18, co18, eo18⟩ := Kd.R_slice HO_4.out
             subst eo18
             go_wp2
             repeat (go_quiet (fail); try go_wp2)
             go_loopg [7] k3 (fun kq v7 w' => ∃ (x7_4 : Int), v7 = .int .i64 x7_4 ∧ Aside0 (soundingsref01_Make.l2 kq l0 x4_1 x5_1 x7_4 = some (r1, r2)) ∧ Aside0 (kq ≤ k3) ∧ Aside0 (Kd.R k44 44 w' w.heap.size (fun _ => True) (.slice Ao18 x4_1.length co18) x4_1) ∧ Aside0 (Below w.heap.size w w'))
             case atStart => exact ⟨((x4_1.length : Int)), (by first | rfl | (simp; done) | (simp [*]; done)), H', ⟨Nat.le_refl _⟩, ⟨by (with_reducible repeat (first | apply Kd.R_alloc | apply Kd.R_drewN | apply Kd.R_drew)); exact HO_4.out⟩, ⟨by repeat (first | (with_reducible first | exact HB.out | apply below_alloc | apply pw_below_drewN | apply below_drew1) | exact HB.out)⟩⟩
             case round =>
              clear H'
              try clear c1
              try clear c2
              try clear c2b0
              try clear p2
              try clear q2
              try clear hx2
              try clear c4
              try clear c4b0
              try clear c6
              try clear p6
              try clear c8
              try clear c9
              try clear c9b0
              try clear c10
              try clear c10b0
              try clear c11
              try clear c11b0
              try clear c12
              try clear c12b0
              try clear c13
              try clear c13b0
              try clear c14
              try clear c14b0
              try clear c14b1
              try clear c15
              try clear c15b0
              try clear c16
              try clear c16b0
              try clear c17
              try clear c17b0
              try clear c17b1
              try clear hx204_0
              try clear hx204_1
              try clear hx206_0
              try clear hx206_1
              try clear hx208_0
              try clear hx208_1
              try clear hx209_0
              try clear hx209_1
              try clear hx210_0
              try clear hx210_1
              try clear p2
              try clear p204
              try clear p206
              try clear p208
              try clear p209
              try clear p210
              try clear q2
              try clear q204
              try clear q206
              try clear q208
              try clear q209
              try clear q210
              obtain ⟨x7_4, rfl, HA, HK4, HO_4, HB⟩ := hrel
              cases gk with
              | zero => exact absurd HA.out (by simp [soundingsref01_Make.l2])
              | succ k4 =>
               have H := HA.out
               clear HA
               simp only [soundingsref01_Make.l2] at H
               by_cases c19 : x7_4 > 0
               ·rw [if_pos c19] at H
                have c19b0 : decide (0 < x7_4) = true := decide_eq_true c19
                clear c19
                obtain ⟨ji20, hji20⟩ : ∃ j_ : Int, (wrap64 (x7_4 - 1)) = j_ := ⟨_, rfl⟩
                replace H : (if 0 ≤ (ji20) then (if (ji20) < (x4_1.length : Int) then (if 0 ≤ x5_1 then (if x5_1 < (l0.length : Int) then (if (Op.bytesLess (((rd_T44 l0 x5_1).f0).toList) (((rd_T44 x4_1 (ji20)).f0).toList)) = true then (soundingsref01_Make.l2 k4 l0 x4_1 x5_1 ji20) else (if 0 ≤ x7_4 then (if x7_4 ≤ (x4_1.length : Int) then ((some (x4_1.take (x7_4 : Int).toNat : List (S44))).bind fun y213 => (if ([] : List (S44)).length + y213.length < 4398046511104 then ((some (([] : List (S44)) ++ y213 : List (S44))).bind fun y217 => (if y217.length < 4398046511104 then ((some (y217 ++ [(⟨(rd_T44 l0 x5_1).f0, (rd_T44 l0 x5_1).f1⟩ : S44)] : List (S44))).bind fun y221 => ((some (x4_1.drop (x7_4 : Int).toNat : List (S44))).bind fun y224 => (if y221.length + y224.length < 4398046511104 then (soundingsref01_Make.l0 k4 l0 (y221 ++ y224) (wrap64 (x5_1 + 1))) else (none)))) else (none))) else (none))) else (none)) else (none))) else (none)) else (none)) else (none)) else (none)) = some (r1, r2) := by first | (rw [hji20] at H; exact H) | (simp only [hji20] at H ⊢; exact H)
                have hji20w : (IntKind.i64.wrap (x7_4 - 1)) = ji20 := (i64_w _).trans hji20
                by_cases c21 : 0 ≤ (ji20)
                ·rw [if_pos c21] at H
                 have c21b0 : decide (0 ≤ (ji20)) = true := decide_eq_true c21
                 clear c21
                 by_cases c22 : (ji20) < (x4_1.length : Int)
                 ·rw [if_pos c22] at H
                  have c22b0 : decide ((ji20) < (x4_1.length : Int)) = true := decide_eq_true c22
                  clear c22
                  by_cases c23 : 0 ≤ x5_1
                  ·rw [if_pos c23] at H
                   have c23b0 : decide (0 ≤ x5_1) = true := decide_eq_true c23
                   clear c23
                   by_cases c24 : x5_1 < (l0.length : Int)
                   ·rw [if_pos c24] at H
                    have c24b0 : decide (x5_1 < (l0.length : Int)) = true := decide_eq_true c24
                    clear c24
                    by_cases c25 : (Op.bytesLess (((rd_T44 l0 x5_1).f0).toList) (((rd_T44 x4_1 (ji20)).f0).toList)) = true
                    ·rw [if_pos c25] at H
                     have c25b0 : (Op.bytesLess (((rd_T44 l0 x5_1).f0).toList) (((rd_T44 x4_1 (ji20)).f0).toList)) = true := c25
                     clear c25
                     have H' := Aside0.mk H
                     clear H
                     have p211 : 0 ≤ ((ji20) : Int) := of_decide_eq_true (by first | (with_reducible assumption) | assumption)
                     have q211 : (ji20) < (x4_1.length : Int) := of_decide_eq_true (by first | (with_reducible assumption) | assumption)
                     obtain ⟨ad211, e211, hx211_0, hx211_1⟩ := at_T44 (Kd.R_reads' HO_4.out).2.2 (ji20) p211 q211
                     cases e211
                     replace p211 := eq_true p211
                     replace q211 := eq_true q211
                     have p212 : 0 ≤ (x5_1 : Int) := of_decide_eq_true (by first | (with_reducible assumption) | assumption)
                     have q212 : x5_1 < (l0.length : Int) := of_decide_eq_true (by first | (with_reducible assumption) | assumption)
                     obtain ⟨ad212, e212, hx212_0, hx212_1⟩ := at_T44 HR0.out x5_1 p212 q212
                     obtain rfl : ad210 = ad212 := (by injection e212)
                     replace hx212_0 := (HB.out.cell (World.block_lt_of_cell? w _ hx212_0)).trans hx212_0
                     replace hx212_1 := (HB.out.cell (World.block_lt_of_cell? w _ hx212_1)).trans hx212_1
                     replace p212 := eq_true p212
                     replace q212 := eq_true q212
                     go_wp2
                     repeat (go_quiet (fail); try go_wp2)
                     go_roundg k4
                     case measure => have := HK1.out; have := HJ2.out; have := HK3.out; have := HK4.out; omega
                     case rel => exact ⟨(ji20), (by first | rfl | (simp; done) | (simp only [← hji20] <;> (first | rfl | simp)) | (simp [*]; done)), H', ⟨by have := HK1.out; have := HJ2.out; have := HK3.out; have := HK4.out; omega⟩, ⟨by (with_reducible repeat (first | apply Kd.R_alloc | apply Kd.R_drewN | apply Kd.R_drew)); exact HO_4.out⟩, ⟨by repeat (first | (with_reducible first | exact HB.out | apply below_alloc | apply pw_below_drewN | apply below_drew1) | exact HB.out)⟩⟩
                    ·rw [if_neg c25] at H
                     have c25b0 : (Op.bytesLess (((rd_T44 l0 x5_1).f0).toList) (((rd_T44 x4_1 (ji20)).f0).toList)) = false := by simpa using c25
                     clear c25
                     by_cases c26 : 0 ≤ x7_4
                     ·rw [if_pos c26] at H
                      have c26b0 := eq_true c26
                      have c26b1 : decide (0 ≤ x7_4) = true := decide_eq_true c26
                      clear c26
                      by_cases c27 : x7_4 ≤ (x4_1.length : Int)
                      ·rw [if_pos c27] at H
                       have c27b0 := eq_true c27
                       have c27b1 : decide (x7_4 ≤ (x4_1.length : Int)) = true := decide_eq_true c27
                       clear c27
                       obtain ⟨y213, hy213⟩ : ∃ y_ : List (S44), y_ = (x4_1.take (x7_4 : Int).toNat) := ⟨_, rfl⟩
                       replace H : (if ([] : List (S44)).length + y213.length < 4398046511104 then ((some (([] : List (S44)) ++ y213 : List (S44))).bind fun y217 => (if y217.length < 4398046511104 then ((some (y217 ++ [(⟨(rd_T44 l0 x5_1).f0, (rd_T44 l0 x5_1).f1⟩ : S44)] : List (S44))).bind fun y221 => ((some (x4_1.drop (x7_4 : Int).toNat : List (S44))).bind fun y224 => (if y221.length + y224.length < 4398046511104 then (soundingsref01_Make.l0 k4 l0 (y221 ++ y224) (wrap64 (x5_1 + 1))) else (none)))) else (none))) else (none)) = some (r1, r2) := by first | (rw [hy213]; with_reducible exact H) | (have H2_ := (Option.bind_some _ _).symm.trans H; rw [hy213]; with_reducible exact H2_) | (have H2_ := (Option.bind_some _ _).symm.trans H; with_reducible exact H2_) | with_reducible exact H | (rw [hy213]; exact H) | exact H
                       have Ny213 := Aside0.mk hy213
                       clear hy213
                       by_cases c28 : ([] : List (S44)).length + y213.length < 4398046511104
                       ·rw [if_pos c28] at H
                        have LMc28 := Aside0.mk c28
                        clear c28
                        obtain ⟨y217, hy217⟩ : ∃ y_ : List (S44), y_ = (([] : List (S44)) ++ y213) := ⟨_, rfl⟩
                        replace H : (if y217.length < 4398046511104 then ((some (y217 ++ [(⟨(rd_T44 l0 x5_1).f0, (rd_T44 l0 x5_1).f1⟩ : S44)] : List (S44))).bind fun y221 => ((some (x4_1.drop (x7_4 : Int).toNat : List (S44))).bind fun y224 => (if y221.length + y224.length < 4398046511104 then (soundingsref01_Make.l0 k4 l0 (y221 ++ y224) (wrap64 (x5_1 + 1))) else (none)))) else (none)) = some (r1, r2) := by first | (rw [hy217]; with_reducible exact H) | (have H2_ := (Option.bind_some _ _).symm.trans H; rw [hy217]; with_reducible exact H2_) | (have H2_ := (Option.bind_some _ _).symm.trans H; with_reducible exact H2_) | with_reducible exact H | (rw [hy217]; exact H) | exact H
                        have Ny217 := Aside0.mk hy217
                        clear hy217
                        by_cases c29 : y217.length < 4398046511104
                        ·rw [if_pos c29] at H
                         have LMc29 := Aside0.mk c29
                         clear c29
                         obtain ⟨y221, hy221⟩ : ∃ y_ : List (S44), y_ = (y217 ++ [(⟨(rd_T44 l0 x5_1).f0, (rd_T44 l0 x5_1).f1⟩ : S44)]) := ⟨_, rfl⟩
                         replace H : ((some (x4_1.drop (x7_4 : Int).toNat : List (S44))).bind fun y224 => (if y221.length + y224.length < 4398046511104 then (soundingsref01_Make.l0 k4 l0 (y221 ++ y224) (wrap64 (x5_1 + 1))) else (none))) = some (r1, r2) := by first | (rw [hy221]; with_reducible exact H) | (have H2_ := (Option.bind_some _ _).symm.trans H; rw [hy221]; with_reducible exact H2_) | (have H2_ := (Option.bind_some _ _).symm.trans H; with_reducible exact H2_) | with_reducible exact H | (rw [hy221]; exact H) | exact H
                         have Ny221 := Aside0.mk hy221
                         clear hy221
                         have c30b0 := eq_true (of_decide_eq_true (by first | (with_reducible assumption) | assumption) : 0 ≤ x7_4)
                         have c31b0 := eq_true (of_decide_eq_true (by first | (with_reducible assumption) | assumption) : x7_4 ≤ (x4_1.length : Int))
                         obtain ⟨y224, hy224⟩ : ∃ y_ : List (S44), y_ = (x4_1.drop (x7_4 : Int).toNat) := ⟨_, rfl⟩
                         replace H : (if y221.length + y224.length < 4398046511104 then (soundingsref01_Make.l0 k4 l0 (y221 ++ y224) (wrap64 (x5_1 + 1))) else (none)) = some (r1, r2) := by first | (rw [hy224]; with_reducible exact H) | (have H2_ := (Option.bind_some _ _).symm.trans H; rw [hy224]; with_reducible exact H2_) | (have H2_ := (Option.bind_some _ _).symm.trans H; with_reducible exact H2_) | with_reducible exact H | (rw [hy224]; exact H) | exact H
                         have Ny224 := Aside0.mk hy224
                         clear hy224
                         by_cases c32 : y221.length + y224.length < 4398046511104
                         ·rw [if_pos c32] at H
                          have LMc32 := Aside0.mk c32
                          clear c32
                          obtain ⟨y228, hy228⟩ : ∃ y_ : List (S44), y_ = (y221 ++ y224) := ⟨_, rfl⟩
                          replace H : (soundingsref01_Make.l0 k4 l0 y228 (wrap64 (x5_1 + 1))) = some (r1, r2) := by first | (rw [hy228]; with_reducible exact H) | (have H2_ := (Option.bind_some _ _).symm.trans H; rw [hy228]; with_reducible exact H2_) | (have H2_ := (Option.bind_some _ _).symm.trans H; with_reducible exact H2_) | with_reducible exact H | (rw [hy228]; exact H) | exact H
                          have Ny228 := Aside0.mk hy228
                          clear hy228
                          have H' := Aside0.mk H
                          clear H
                          have p211 : 0 ≤ ((ji20) : Int) := of_decide_eq_true (by first | (with_reducible assumption) | assumption)
                          have q211 : (ji20) < (x4_1.length : Int) := of_decide_eq_true (by first | (with_reducible assumption) | assumption)
                          obtain ⟨ad211, e211, hx211_0, hx211_1⟩ := at_T44 (Kd.R_reads' HO_4.out).2.2 (ji20) p211 q211
                          cases e211
                          replace p211 := eq_true p211
                          replace q211 := eq_true q211
                          have p212 : 0 ≤ (x5_1 : Int) := of_decide_eq_true (by first | (with_reducible assumption) | assumption)
                          have q212 : x5_1 < (l0.length : Int) := of_decide_eq_true (by first | (with_reducible assumption) | assumption)
                          obtain ⟨ad212, e212, hx212_0, hx212_1⟩ := at_T44 HR0.out x5_1 p212 q212
                          obtain rfl : ad210 = ad212 := (by injection e212)
                          replace hx212_0 := (HB.out.cell (World.block_lt_of_cell? w _ hx212_0)).trans hx212_0
                          replace hx212_1 := (HB.out.cell (World.block_lt_of_cell? w _ hx212_1)).trans hx212_1
                          replace p212 := eq_true p212
                          replace q212 := eq_true q212
                          have q33 : (x7_4 : Int) ≤ ((x4_1.length : Int) : Int) := of_decide_eq_true (by first | (with_reducible assumption) | assumption)
                          obtain ⟨i033, hi033, _, hsz33, _⟩ := info_parts info44
                          have hroom33 : x4_1.length ≤ co18 := (Kd.R_reads' HO_4.out).2.1
                          have hC33 : Kd.C k44 _ (some ad211) x4_1.length x4_1 := (Kd.R_reads' HO_4.out).2.2
                          have hcut33 := cut_to (P := Tryz.prog) 23 44 .i64 Tryz.underlying23 hi033 (some ad211) x4_1.length co18 x7_4 (of_decide_eq_true (by first | (with_reducible assumption) | assumption)) q33 hroom33
                          have hr33 := Kd.C_take (m := (x7_4 : Int).toNat) hC33 (by omega)
                          have hy33 : y213.length = (x7_4 : Int).toNat := (by rw [Ny213.out, List.length_take]; omega)
                          rw [← Ny213.out] at hr33
                          rw [← hy33] at hcut33
                          have HR216 := Aside0.mk hr33
                          have HC216 := Aside0.mk (show y213.length ≤ co18 from by omega)
                          clear hr33 hC33 hroom33 hi033 hsz33
                          have KY33 := Aside0.mk hy33
                          clear hy33
                          have KL33 := Aside0.mk (show (x7_4 : Int).toNat ≤ x4_1.length from by omega)
                          replace q33 := eq_true q33
                          go_wp2_with (first | ((with_reducible refine gate_builtin (b := .append) (xs := #[.tmp 73, .tmp 76]) rfl ?_); at_builtin; refine Kd.R_append_rows k44 (w0 := w) w.heap.size rfl (.tmp 73) (.tmp 76) 23 44 (.agg #[(.string ⟨#[]⟩), (.string ⟨#[]⟩)]) 32 rfl Tryz.underlying23 info44 rfl (by decide) (by omega) (.slice none 0 0) ([] : List (S44)) y213 _ _ _ (fun k_ => some k_ ≠ (.slice (some ad211) x4_1.length co18 : Value).ownBlock) (fun _ => False) rfl rfl ?aO ?aR (fun _ _ h => h) (fun _ h => h.elim) ?aF ?aB ?aS ?aL ?_; (case aR => repeat (first | exact (by repeat (first | (with_reducible exact HR216.out) | (with_reducible refine Kd.C_alloc ?_ _) | (with_reducible refine Kd.C_drewN ?_ _) | (with_reducible refine Kd.C_drew ?_) | exact HR216.out)) | (with_reducible refine Kd.C_alloc ?_ _) | (with_reducible refine Kd.C_drewN ?_ _) | (with_reducible refine Kd.C_drew ?_))); (case aB => exact (by repeat (first | (with_reducible first | exact HB.out | apply below_alloc | apply pw_below_drewN | apply below_drew1) | exact HB.out))); (case aF => exact (fun k_ hk => Kd.fresh' (Kd.R_lt (by (with_reducible repeat (first | apply Kd.R_alloc | apply Kd.R_drewN | apply Kd.R_drew)); exact HO_4.out)) k_ hk)); (case aO => exact ((Kd.R_nil _ _ _ _ (fun k_ => some k_ ≠ (.slice (some ad211) x4_1.length co18 : Value).ownBlock)))); (case aS => exact (below_size (by repeat (first | (with_reducible first | exact HB.out | apply below_alloc | apply pw_below_drewN | apply below_drew1) | exact HB.out)))); (case aL => have := LMc28.out; omega); intro v218 w34 ho hb hg hat; rw [← Ny217.out] at ho; have n0_ := Aside0.mk (Kd.R_after (Kd.R_apart_nil (by (with_reducible repeat (first | apply Kd.R_alloc | apply Kd.R_drewN | apply Kd.R_drew)); exact HO_4.out)) hg hat); have n1_ := Aside0.mk (hb); have n2_ := Aside0.mk ((show Kd.C k44 w34 (some ad211) y213.length y213 from by rw [Ny213.out]; exact Kd.C_take (m := (x7_4 : Int).toNat) ((Kd.R_reads' (Kd.R_after (Kd.R_apart_nil (by (with_reducible repeat (first | apply Kd.R_alloc | apply Kd.R_drewN | apply Kd.R_drew)); exact HO_4.out)) hg hat)).2.2) KL33.out)); have n3_ := Aside0.mk (ho); clear HO_4; clear HB; clear HR216; have HO_4 := n0_; have HB := n1_; have HR216 := n2_; have HO219 := n3_; clear n0_ n1_ n2_ n3_; clear ho hb hg hat; have p220 : 0 ≤ (x5_1 : Int) := of_decide_eq_true (by first | (with_reducible assumption) | assumption); have q220 : x5_1 < (l0.length : Int) := of_decide_eq_true (by first | (with_reducible assumption) | assumption); obtain ⟨ad220, e220, hx220_0, hx220_1⟩ := at_T44 HR0.out x5_1 p220 q220; obtain rfl : ad210 = ad220 := (by injection e220); replace hx220_0 := (HB.out.cell (World.block_lt_of_cell? w _ hx220_0)).trans hx220_0; replace hx220_1 := (HB.out.cell (World.block_lt_of_cell? w _ hx220_1)).trans hx220_1; replace p220 := eq_true p220; replace q220 := eq_true q220) | ((with_reducible refine gate_builtin (b := .append) (xs := #[.tmp 78, .tmp 83]) rfl ?_); at_builtin; refine Kd.R_append k44 (w0 := w) w.heap.size rfl (.tmp 78) (.tmp 83) 23 44 (.agg #[(.string ⟨#[]⟩), (.string ⟨#[]⟩)]) 32 rfl Tryz.underlying23 info44 rfl (by decide) (by omega) v218 y217 (⟨(rd_T44 l0 x5_1).f0, (rd_T44 l0 x5_1).f1⟩ : S44) [.string ((rd_T44 l0 x5_1).f0), .string ((rd_T44 l0 x5_1).f1)] (fun k_ => some k_ ≠ (.slice (some ad211) x4_1.length co18 : Value).ownBlock) (fun _ => False) rfl rfl ?aP (fun _ hk => hk.elim) ?aF ?aO ?aB ?aS ?aL ?_; (case aP => exact k44_mkM _ _ _ (⟨(rd_T44 l0 x5_1).f0, (rd_T44 l0 x5_1).f1⟩ : S44)); (case aB => exact (by repeat (first | (with_reducible first | exact HB.out | apply below_alloc | apply pw_below_drewN | apply below_drew1) | exact HB.out))); (case aF => exact (fun k_ hk => Kd.fresh' (Kd.R_lt (by (with_reducible repeat (first | apply Kd.R_alloc | apply Kd.R_drewN | apply Kd.R_drew)); exact HO_4.out)) k_ hk)); (case aO => exact (by (with_reducible repeat (first | apply Kd.R_alloc | apply Kd.R_drewN | apply Kd.R_drew)); exact HO219.out)); (case aS => exact (below_size (by repeat (first | (with_reducible first | exact HB.out | apply below_alloc | apply pw_below_drewN | apply below_drew1) | exact HB.out)))); (case aL => have := LMc29.out; omega); intro v222 w35 ho hb hg hat; rw [← Ny221.out] at ho; have n0_ := Aside0.mk (Kd.R_after (ok := (fun _ => True)) (by (with_reducible repeat (first | apply Kd.R_alloc | apply Kd.R_drewN | apply Kd.R_drew)); exact HO_4.out) hg hat); have n1_ := Aside0.mk (hb); have n2_ := Aside0.mk ((show Kd.C k44 w35 (some ad211) y213.length y213 from by rw [Ny213.out]; exact Kd.C_take (m := (x7_4 : Int).toNat) ((Kd.R_reads' (Kd.R_after (ok := (fun _ => True)) (by (with_reducible repeat (first | apply Kd.R_alloc | apply Kd.R_drewN | apply Kd.R_drew)); exact HO_4.out) hg hat)).2.2) KL33.out)); have n3_ := Aside0.mk (ho); clear HO_4; clear HB; clear HR216; clear HO219; have HO_4 := n0_; have HB := n1_; have HR216 := n2_; have HO223 := n3_; clear n0_ n1_ n2_ n3_; clear ho hb hg hat; have q36 : (x7_4 : Int) ≤ ((x4_1.length : Int) : Int) := of_decide_eq_true (by first | (with_reducible assumption) | assumption); obtain ⟨i036, hi036, _, hsz36, _⟩ := info_parts info44; have hroom36 : x4_1.length ≤ co18 := (Kd.R_reads' HO_4.out).2.1; have hC36 : Kd.C k44 _ (some ad211) x4_1.length x4_1 := (Kd.R_reads' HO_4.out).2.2; have q036 : (0 : Int) ≤ (x7_4 : Int) := of_decide_eq_true (by first | (with_reducible assumption) | assumption); have hcut36 := cut_from (P := Tryz.prog) 23 44 .i64 Tryz.underlying23 hi036 2 hsz36 (some ad211) x4_1.length co18 x7_4 q036 q36; have hr36 := Kd.C_drop (m := (x7_4 : Int).toNat) (c := co18) hC36 (by omega) hroom36; obtain ⟨A36, hA36⟩ : ∃ A1, A1 = (if co18 = (x7_4 : Int).toNat then (some ad211) else ((some ad211) : Option Addr).map (·.add ((x7_4 : Int).toNat * 2))) := ⟨_, rfl⟩; obtain ⟨c36, hc36⟩ : ∃ c1, c1 = co18 - (x7_4 : Int).toNat := ⟨_, rfl⟩; have hy36 : y224.length = x4_1.length - (x7_4 : Int).toNat := (by rw [Ny224.out, List.length_drop] <;> omega); rw [show (x4_1).drop (x7_4 : Int).toNat = y224 from Ny224.out.symm] at hr36; replace hr36 : Kd.C k44 _ A36 y224.length y224 := (by rw [hA36]; exact hr36); rw [← hy36, ← hA36, ← hc36] at hcut36; have HR227 := Aside0.mk hr36; have HC227 := Aside0.mk (show y224.length ≤ c36 from by rw [hy36, hc36]; exact Nat.sub_le_sub_right hroom36 _); clear hr36 hC36 hroom36 hi036 hsz36 hc36; have KY36 := Aside0.mk hy36; have KA36 := Aside0.mk hA36; clear hy36 hA36; have KL36 := Aside0.mk (show (x7_4 : Int).toNat ≤ x4_1.length from by omega); replace q36 := eq_true q36) | ((with_reducible refine gate_builtin (b := .append) (xs := #[.tmp 85, .tmp 88]) rfl ?_); at_builtin; refine Kd.R_append_rows k44 (w0 := w) w.heap.size rfl (.tmp 85) (.tmp 88) 23 44 (.agg #[(.string ⟨#[]⟩), (.string ⟨#[]⟩)]) 32 rfl Tryz.underlying23 info44 rfl (by decide) (by omega) v222 y221 y224 _ _ _ (fun k_ => some k_ ≠ (.slice (some ad211) x4_1.length co18 : Value).ownBlock) (fun _ => False) rfl rfl ?aO ?aR (fun _ _ h => h) (fun _ h => h.elim) ?aF ?aB ?aS ?aL ?_; (case aR => repeat (first | exact (by repeat (first | (with_reducible exact HR227.out) | (with_reducible refine Kd.C_alloc ?_ _) | (with_reducible refine Kd.C_drewN ?_ _) | (with_reducible refine Kd.C_drew ?_) | exact HR227.out)) | (with_reducible refine Kd.C_alloc ?_ _) | (with_reducible refine Kd.C_drewN ?_ _) | (with_reducible refine Kd.C_drew ?_))); (case aB => exact (by repeat (first | (with_reducible first | exact HB.out | apply below_alloc | apply pw_below_drewN | apply below_drew1) | exact HB.out))); (case aF => exact (fun k_ hk => Kd.fresh' (Kd.R_lt (by (with_reducible repeat (first | apply Kd.R_alloc | apply Kd.R_drewN | apply Kd.R_drew)); exact HO_4.out)) k_ hk)); (case aO => exact (by (with_reducible repeat (first | apply Kd.R_alloc | apply Kd.R_drewN | apply Kd.R_drew)); exact HO223.out)); (case aS => exact (below_size (by repeat (first | (with_reducible first | exact HB.out | apply below_alloc | apply pw_below_drewN | apply below_drew1) | exact HB.out)))); (case aL => have := LMc32.out; omega); intro v229 w37 ho hb hg hat; rw [← Ny228.out] at ho; have n0_ := Aside0.mk (Kd.R_after (ok := (fun _ => True)) (by (with_reducible repeat (first | apply Kd.R_alloc | apply Kd.R_drewN | apply Kd.R_drew)); exact HO_4.out) hg hat); have n1_ := Aside0.mk (hb); have n2_ := Aside0.mk ((show Kd.C k44 w37 (some ad211) y213.length y213 from by rw [Ny213.out]; exact Kd.C_take (m := (x7_4 : Int).toNat) ((Kd.R_reads' (Kd.R_after (ok := (fun _ => True)) (by (with_reducible repeat (first | apply Kd.R_alloc | apply Kd.R_drewN | apply Kd.R_drew)); exact HO_4.out) hg hat)).2.2) KL33.out)); have n3_ := Aside0.mk ((show Kd.C k44 w37 A36 y224.length y224 from by rw [Ny224.out, KA36.out]; exact Kd.C_drop (m := (x7_4 : Int).toNat) (c := co18) ((Kd.R_reads' (Kd.R_after (ok := (fun _ => True)) (by (with_reducible repeat (first | apply Kd.R_alloc | apply Kd.R_drewN | apply Kd.R_drew)); exact HO_4.out) hg hat)).2.2) KL36.out ((Kd.R_reads' (Kd.R_after (ok := (fun _ => True)) (by (with_reducible repeat (first | apply Kd.R_alloc | apply Kd.R_drewN | apply Kd.R_drew)); exact HO_4.out) hg hat)).2.1))); have n4_ := Aside0.mk (ho); clear HO_4; clear HB; clear HR216; clear HR227; clear HO223; have HO_4 := n0_; have HB := n1_; have HR216 := n2_; have HR227 := n3_; have HO230 := n4_; clear n0_ n1_ n2_ n3_ n4_; clear ho hb hg hat))
                          repeat (go_quiet (first | ((with_reducible refine gate_builtin (b := .append) (xs := #[.tmp 73, .tmp 76]) rfl ?_); at_builtin; refine Kd.R_append_rows k44 (w0 := w) w.heap.size rfl (.tmp 73) (.tmp 76) 23 44 (.agg #[(.string ⟨#[]⟩), (.string ⟨#[]⟩)]) 32 rfl Tryz.underlying23 info44 rfl (by decide) (by omega) (.slice none 0 0) ([] : List (S44)) y213 _ _ _ (fun k_ => some k_ ≠ (.slice (some ad211) x4_1.length co18 : Value).ownBlock) (fun _ => False) rfl rfl ?aO ?aR (fun _ _ h => h) (fun _ h => h.elim) ?aF ?aB ?aS ?aL ?_; (case aR => repeat (first | exact (by repeat (first | (with_reducible exact HR216.out) | (with_reducible refine Kd.C_alloc ?_ _) | (with_reducible refine Kd.C_drewN ?_ _) | (with_reducible refine Kd.C_drew ?_) | exact HR216.out)) | (with_reducible refine Kd.C_alloc ?_ _) | (with_reducible refine Kd.C_drewN ?_ _) | (with_reducible refine Kd.C_drew ?_))); (case aB => exact (by repeat (first | (with_reducible first | exact HB.out | apply below_alloc | apply pw_below_drewN | apply below_drew1) | exact HB.out))); (case aF => exact (fun k_ hk => Kd.fresh' (Kd.R_lt (by (with_reducible repeat (first | apply Kd.R_alloc | apply Kd.R_drewN | apply Kd.R_drew)); exact HO_4.out)) k_ hk)); (case aO => exact ((Kd.R_nil _ _ _ _ (fun k_ => some k_ ≠ (.slice (some ad211) x4_1.length co18 : Value).ownBlock)))); (case aS => exact (below_size (by repeat (first | (with_reducible first | exact HB.out | apply below_alloc | apply pw_below_drewN | apply below_drew1) | exact HB.out)))); (case aL => have := LMc28.out; omega); intro v218 w34 ho hb hg hat; rw [← Ny217.out] at ho; have n0_ := Aside0.mk (Kd.R_after (Kd.R_apart_nil (by (with_reducible repeat (first | apply Kd.R_alloc | apply Kd.R_drewN | apply Kd.R_drew)); exact HO_4.out)) hg hat); have n1_ := Aside0.mk (hb); have n2_ := Aside0.mk ((show Kd.C k44 w34 (some ad211) y213.length y213 from by rw [Ny213.out]; exact Kd.C_take (m := (x7_4 : Int).toNat) ((Kd.R_reads' (Kd.R_after (Kd.R_apart_nil (by (with_reducible repeat (first | apply Kd.R_alloc | apply Kd.R_drewN | apply Kd.R_drew)); exact HO_4.out)) hg hat)).2.2) KL33.out)); have n3_ := Aside0.mk (ho); clear HO_4; clear HB; clear HR216; have HO_4 := n0_; have HB := n1_; have HR216 := n2_; have HO219 := n3_; clear n0_ n1_ n2_ n3_; clear ho hb hg hat; have p220 : 0 ≤ (x5_1 : Int) := of_decide_eq_true (by first | (with_reducible assumption) | assumption); have q220 : x5_1 < (l0.length : Int) := of_decide_eq_true (by first | (with_reducible assumption) | assumption); obtain ⟨ad220, e220, hx220_0, hx220_1⟩ := at_T44 HR0.out x5_1 p220 q220; obtain rfl : ad210 = ad220 := (by injection e220); replace hx220_0 := (HB.out.cell (World.block_lt_of_cell? w _ hx220_0)).trans hx220_0; replace hx220_1 := (HB.out.cell (World.block_lt_of_cell? w _ hx220_1)).trans hx220_1; replace p220 := eq_true p220; replace q220 := eq_true q220) | ((with_reducible refine gate_builtin (b := .append) (xs := #[.tmp 78, .tmp 83]) rfl ?_); at_builtin; refine Kd.R_append k44 (w0 := w) w.heap.size rfl (.tmp 78) (.tmp 83) 23 44 (.agg #[(.string ⟨#[]⟩), (.string ⟨#[]⟩)]) 32 rfl Tryz.underlying23 info44 rfl (by decide) (by omega) v218 y217 (⟨(rd_T44 l0 x5_1).f0, (rd_T44 l0 x5_1).f1⟩ : S44) [.string ((rd_T44 l0 x5_1).f0), .string ((rd_T44 l0 x5_1).f1)] (fun k_ => some k_ ≠ (.slice (some ad211) x4_1.length co18 : Value).ownBlock) (fun _ => False) rfl rfl ?aP (fun _ hk => hk.elim) ?aF ?aO ?aB ?aS ?aL ?_; (case aP => exact k44_mkM _ _ _ (⟨(rd_T44 l0 x5_1).f0, (rd_T44 l0 x5_1).f1⟩ : S44)); (case aB => exact (by repeat (first | (with_reducible first | exact HB.out | apply below_alloc | apply pw_below_drewN | apply below_drew1) | exact HB.out))); (case aF => exact (fun k_ hk => Kd.fresh' (Kd.R_lt (by (with_reducible repeat (first | apply Kd.R_alloc | apply Kd.R_drewN | apply Kd.R_drew)); exact HO_4.out)) k_ hk)); (case aO => exact (by (with_reducible repeat (first | apply Kd.R_alloc | apply Kd.R_drewN | apply Kd.R_drew)); exact HO219.out)); (case aS => exact (below_size (by repeat (first | (with_reducible first | exact HB.out | apply below_alloc | apply pw_below_drewN | apply below_drew1) | exact HB.out)))); (case aL => have := LMc29.out; omega); intro v222 w35 ho hb hg hat; rw [← Ny221.out] at ho; have n0_ := Aside0.mk (Kd.R_after (ok := (fun _ => True)) (by (with_reducible repeat (first | apply Kd.R_alloc | apply Kd.R_drewN | apply Kd.R_drew)); exact HO_4.out) hg hat); have n1_ := Aside0.mk (hb); have n2_ := Aside0.mk ((show Kd.C k44 w35 (some ad211) y213.length y213 from by rw [Ny213.out]; exact Kd.C_take (m := (x7_4 : Int).toNat) ((Kd.R_reads' (Kd.R_after (ok := (fun _ => True)) (by (with_reducible repeat (first | apply Kd.R_alloc | apply Kd.R_drewN | apply Kd.R_drew)); exact HO_4.out) hg hat)).2.2) KL33.out)); have n3_ := Aside0.mk (ho); clear HO_4; clear HB; clear HR216; clear HO219; have HO_4 := n0_; have HB := n1_; have HR216 := n2_; have HO223 := n3_; clear n0_ n1_ n2_ n3_; clear ho hb hg hat; have q36 : (x7_4 : Int) ≤ ((x4_1.length : Int) : Int) := of_decide_eq_true (by first | (with_reducible assumption) | assumption); obtain ⟨i036, hi036, _, hsz36, _⟩ := info_parts info44; have hroom36 : x4_1.length ≤ co18 := (Kd.R_reads' HO_4.out).2.1; have hC36 : Kd.C k44 _ (some ad211) x4_1.length x4_1 := (Kd.R_reads' HO_4.out).2.2; have q036 : (0 : Int) ≤ (x7_4 : Int) := of_decide_eq_true (by first | (with_reducible assumption) | assumption); have hcut36 := cut_from (P := Tryz.prog) 23 44 .i64 Tryz.underlying23 hi036 2 hsz36 (some ad211) x4_1.length co18 x7_4 q036 q36; have hr36 := Kd.C_drop (m := (x7_4 : Int).toNat) (c := co18) hC36 (by omega) hroom36; obtain ⟨A36, hA36⟩ : ∃ A1, A1 = (if co18 = (x7_4 : Int).toNat then (some ad211) else ((some ad211) : Option Addr).map (·.add ((x7_4 : Int).toNat * 2))) := ⟨_, rfl⟩; obtain ⟨c36, hc36⟩ : ∃ c1, c1 = co18 - (x7_4 : Int).toNat := ⟨_, rfl⟩; have hy36 : y224.length = x4_1.length - (x7_4 : Int).toNat := (by rw [Ny224.out, List.length_drop] <;> omega); rw [show (x4_1).drop (x7_4 : Int).toNat = y224 from Ny224.out.symm] at hr36; replace hr36 : Kd.C k44 _ A36 y224.length y224 := (by rw [hA36]; exact hr36); rw [← hy36, ← hA36, ← hc36] at hcut36; have HR227 := Aside0.mk hr36; have HC227 := Aside0.mk (show y224.length ≤ c36 from by rw [hy36, hc36]; exact Nat.sub_le_sub_right hroom36 _); clear hr36 hC36 hroom36 hi036 hsz36 hc36; have KY36 := Aside0.mk hy36; have KA36 := Aside0.mk hA36; clear hy36 hA36; have KL36 := Aside0.mk (show (x7_4 : Int).toNat ≤ x4_1.length from by omega); replace q36 := eq_true q36) | ((with_reducible refine gate_builtin (b := .append) (xs := #[.tmp 85, .tmp 88]) rfl ?_); at_builtin; refine Kd.R_append_rows k44 (w0 := w) w.heap.size rfl (.tmp 85) (.tmp 88) 23 44 (.agg #[(.string ⟨#[]⟩), (.string ⟨#[]⟩)]) 32 rfl Tryz.underlying23 info44 rfl (by decide) (by omega) v222 y221 y224 _ _ _ (fun k_ => some k_ ≠ (.slice (some ad211) x4_1.length co18 : Value).ownBlock) (fun _ => False) rfl rfl ?aO ?aR (fun _ _ h => h) (fun _ h => h.elim) ?aF ?aB ?aS ?aL ?_; (case aR => repeat (first | exact (by repeat (first | (with_reducible exact HR227.out) | (with_reducible refine Kd.C_alloc ?_ _) | (with_reducible refine Kd.C_drewN ?_ _) | (with_reducible refine Kd.C_drew ?_) | exact HR227.out)) | (with_reducible refine Kd.C_alloc ?_ _) | (with_reducible refine Kd.C_drewN ?_ _) | (with_reducible refine Kd.C_drew ?_))); (case aB => exact (by repeat (first | (with_reducible first | exact HB.out | apply below_alloc | apply pw_below_drewN | apply below_drew1) | exact HB.out))); (case aF => exact (fun k_ hk => Kd.fresh' (Kd.R_lt (by (with_reducible repeat (first | apply Kd.R_alloc | apply Kd.R_drewN | apply Kd.R_drew)); exact HO_4.out)) k_ hk)); (case aO => exact (by (with_reducible repeat (first | apply Kd.R_alloc | apply Kd.R_drewN | apply Kd.R_drew)); exact HO223.out)); (case aS => exact (below_size (by repeat (first | (with_reducible first | exact HB.out | apply below_alloc | apply pw_below_drewN | apply below_drew1) | exact HB.out)))); (case aL => have := LMc32.out; omega); intro v229 w37 ho hb hg hat; rw [← Ny228.out] at ho; have n0_ := Aside0.mk (Kd.R_after (ok := (fun _ => True)) (by (with_reducible repeat (first | apply Kd.R_alloc | apply Kd.R_drewN | apply Kd.R_drew)); exact HO_4.out) hg hat); have n1_ := Aside0.mk (hb); have n2_ := Aside0.mk ((show Kd.C k44 w37 (some ad211) y213.length y213 from by rw [Ny213.out]; exact Kd.C_take (m := (x7_4 : Int).toNat) ((Kd.R_reads' (Kd.R_after (ok := (fun _ => True)) (by (with_reducible repeat (first | apply Kd.R_alloc | apply Kd.R_drewN | apply Kd.R_drew)); exact HO_4.out) hg hat)).2.2) KL33.out)); have n3_ := Aside0.mk ((show Kd.C k44 w37 A36 y224.length y224 from by rw [Ny224.out, KA36.out]; exact Kd.C_drop (m := (x7_4 : Int).toNat) (c := co18) ((Kd.R_reads' (Kd.R_after (ok := (fun _ => True)) (by (with_reducible repeat (first | apply Kd.R_alloc | apply Kd.R_drewN | apply Kd.R_drew)); exact HO_4.out) hg hat)).2.2) KL36.out ((Kd.R_reads' (Kd.R_after (ok := (fun _ => True)) (by (with_reducible repeat (first | apply Kd.R_alloc | apply Kd.R_drewN | apply Kd.R_drew)); exact HO_4.out) hg hat)).2.1))); have n4_ := Aside0.mk (ho); clear HO_4; clear HB; clear HR216; clear HR227; clear HO223; have HO_4 := n0_; have HB := n1_; have HR216 := n2_; have HR227 := n3_; have HO230 := n4_; clear n0_ n1_ n2_ n3_ n4_; clear ho hb hg hat)); try go_wp2_with (first | ((with_reducible refine gate_builtin (b := .append) (xs := #[.tmp 73, .tmp 76]) rfl ?_); at_builtin; refine Kd.R_append_rows k44 (w0 := w) w.heap.size rfl (.tmp 73) (.tmp 76) 23 44 (.agg #[(.string ⟨#[]⟩), (.string ⟨#[]⟩)]) 32 rfl Tryz.underlying23 info44 rfl (by decide) (by omega) (.slice none 0 0) ([] : List (S44)) y213 _ _ _ (fun k_ => some k_ ≠ (.slice (some ad211) x4_1.length co18 : Value).ownBlock) (fun _ => False) rfl rfl ?aO ?aR (fun _ _ h => h) (fun _ h => h.elim) ?aF ?aB ?aS ?aL ?_; (case aR => repeat (first | exact (by repeat (first | (with_reducible exact HR216.out) | (with_reducible refine Kd.C_alloc ?_ _) | (with_reducible refine Kd.C_drewN ?_ _) | (with_reducible refine Kd.C_drew ?_) | exact HR216.out)) | (with_reducible refine Kd.C_alloc ?_ _) | (with_reducible refine Kd.C_drewN ?_ _) | (with_reducible refine Kd.C_drew ?_))); (case aB => exact (by repeat (first | (with_reducible first | exact HB.out | apply below_alloc | apply pw_below_drewN | apply below_drew1) | exact HB.out))); (case aF => exact (fun k_ hk => Kd.fresh' (Kd.R_lt (by (with_reducible repeat (first | apply Kd.R_alloc | apply Kd.R_drewN | apply Kd.R_drew)); exact HO_4.out)) k_ hk)); (case aO => exact ((Kd.R_nil _ _ _ _ (fun k_ => some k_ ≠ (.slice (some ad211) x4_1.length co18 : Value).ownBlock)))); (case aS => exact (below_size (by repeat (first | (with_reducible first | exact HB.out | apply below_alloc | apply pw_below_drewN | apply below_drew1) | exact HB.out)))); (case aL => have := LMc28.out; omega); intro v218 w34 ho hb hg hat; rw [← Ny217.out] at ho; have n0_ := Aside0.mk (Kd.R_after (Kd.R_apart_nil (by (with_reducible repeat (first | apply Kd.R_alloc | apply Kd.R_drewN | apply Kd.R_drew)); exact HO_4.out)) hg hat); have n1_ := Aside0.mk (hb); have n2_ := Aside0.mk ((show Kd.C k44 w34 (some ad211) y213.length y213 from by rw [Ny213.out]; exact Kd.C_take (m := (x7_4 : Int).toNat) ((Kd.R_reads' (Kd.R_after (Kd.R_apart_nil (by (with_reducible repeat (first | apply Kd.R_alloc | apply Kd.R_drewN | apply Kd.R_drew)); exact HO_4.out)) hg hat)).2.2) KL33.out)); have n3_ := Aside0.mk (ho); clear HO_4; clear HB; clear HR216; have HO_4 := n0_; have HB := n1_; have HR216 := n2_; have HO219 := n3_; clear n0_ n1_ n2_ n3_; clear ho hb hg hat; have p220 : 0 ≤ (x5_1 : Int) := of_decide_eq_true (by first | (with_reducible assumption) | assumption); have q220 : x5_1 < (l0.length : Int) := of_decide_eq_true (by first | (with_reducible assumption) | assumption); obtain ⟨ad220, e220, hx220_0, hx220_1⟩ := at_T44 HR0.out x5_1 p220 q220; obtain rfl : ad210 = ad220 := (by injection e220); replace hx220_0 := (HB.out.cell (World.block_lt_of_cell? w _ hx220_0)).trans hx220_0; replace hx220_1 := (HB.out.cell (World.block_lt_of_cell? w _ hx220_1)).trans hx220_1; replace p220 := eq_true p220; replace q220 := eq_true q220) | ((with_reducible refine gate_builtin (b := .append) (xs := #[.tmp 78, .tmp 83]) rfl ?_); at_builtin; refine Kd.R_append k44 (w0 := w) w.heap.size rfl (.tmp 78) (.tmp 83) 23 44 (.agg #[(.string ⟨#[]⟩), (.string ⟨#[]⟩)]) 32 rfl Tryz.underlying23 info44 rfl (by decide) (by omega) v218 y217 (⟨(rd_T44 l0 x5_1).f0, (rd_T44 l0 x5_1).f1⟩ : S44) [.string ((rd_T44 l0 x5_1).f0), .string ((rd_T44 l0 x5_1).f1)] (fun k_ => some k_ ≠ (.slice (some ad211) x4_1.length co18 : Value).ownBlock) (fun _ => False) rfl rfl ?aP (fun _ hk => hk.elim) ?aF ?aO ?aB ?aS ?aL ?_; (case aP => exact k44_mkM _ _ _ (⟨(rd_T44 l0 x5_1).f0, (rd_T44 l0 x5_1).f1⟩ : S44)); (case aB => exact (by repeat (first | (with_reducible first | exact HB.out | apply below_alloc | apply pw_below_drewN | apply below_drew1) | exact HB.out))); (case aF => exact (fun k_ hk => Kd.fresh' (Kd.R_lt (by (with_reducible repeat (first | apply Kd.R_alloc | apply Kd.R_drewN | apply Kd.R_drew)); exact HO_4.out)) k_ hk)); (case aO => exact (by (with_reducible repeat (first | apply Kd.R_alloc | apply Kd.R_drewN | apply Kd.R_drew)); exact HO219.out)); (case aS => exact (below_size (by repeat (first | (with_reducible first | exact HB.out | apply below_alloc | apply pw_below_drewN | apply below_drew1) | exact HB.out)))); (case aL => have := LMc29.out; omega); intro v222 w35 ho hb hg hat; rw [← Ny221.out] at ho; have n0_ := Aside0.mk (Kd.R_after (ok := (fun _ => True)) (by (with_reducible repeat (first | apply Kd.R_alloc | apply Kd.R_drewN | apply Kd.R_drew)); exact HO_4.out) hg hat); have n1_ := Aside0.mk (hb); have n2_ := Aside0.mk ((show Kd.C k44 w35 (some ad211) y213.length y213 from by rw [Ny213.out]; exact Kd.C_take (m := (x7_4 : Int).toNat) ((Kd.R_reads' (Kd.R_after (ok := (fun _ => True)) (by (with_reducible repeat (first | apply Kd.R_alloc | apply Kd.R_drewN | apply Kd.R_drew)); exact HO_4.out) hg hat)).2.2) KL33.out)); have n3_ := Aside0.mk (ho); clear HO_4; clear HB; clear HR216; clear HO219; have HO_4 := n0_; have HB := n1_; have HR216 := n2_; have HO223 := n3_; clear n0_ n1_ n2_ n3_; clear ho hb hg hat; have q36 : (x7_4 : Int) ≤ ((x4_1.length : Int) : Int) := of_decide_eq_true (by first | (with_reducible assumption) | assumption); obtain ⟨i036, hi036, _, hsz36, _⟩ := info_parts info44; have hroom36 : x4_1.length ≤ co18 := (Kd.R_reads' HO_4.out).2.1; have hC36 : Kd.C k44 _ (some ad211) x4_1.length x4_1 := (Kd.R_reads' HO_4.out).2.2; have q036 : (0 : Int) ≤ (x7_4 : Int) := of_decide_eq_true (by first | (with_reducible assumption) | assumption); have hcut36 := cut_from (P := Tryz.prog) 23 44 .i64 Tryz.underlying23 hi036 2 hsz36 (some ad211) x4_1.length co18 x7_4 q036 q36; have hr36 := Kd.C_drop (m := (x7_4 : Int).toNat) (c := co18) hC36 (by omega) hroom36; obtain ⟨A36, hA36⟩ : ∃ A1, A1 = (if co18 = (x7_4 : Int).toNat then (some ad211) else ((some ad211) : Option Addr).map (·.add ((x7_4 : Int).toNat * 2))) := ⟨_, rfl⟩; obtain ⟨c36, hc36⟩ : ∃ c1, c1 = co18 - (x7_4 : Int).toNat := ⟨_, rfl⟩; have hy36 : y224.length = x4_1.length - (x7_4 : Int).toNat := (by rw [Ny224.out, List.length_drop] <;> omega); rw [show (x4_1).drop (x7_4 : Int).toNat = y224 from Ny224.out.symm] at hr36; replace hr36 : Kd.C k44 _ A36 y224.length y224 := (by rw [hA36]; exact hr36); rw [← hy36, ← hA36, ← hc36] at hcut36; have HR227 := Aside0.mk hr36; have HC227 := Aside0.mk (show y224.length ≤ c36 from by rw [hy36, hc36]; exact Nat.sub_le_sub_right hroom36 _); clear hr36 hC36 hroom36 hi036 hsz36 hc36; have KY36 := Aside0.mk hy36; have KA36 := Aside0.mk hA36; clear hy36 hA36; have KL36 := Aside0.mk (show (x7_4 : Int).toNat ≤ x4_1.length from by omega); replace q36 := eq_true q36) | ((with_reducible refine gate_builtin (b := .append) (xs := #[.tmp 85, .tmp 88]) rfl ?_); at_builtin; refine Kd.R_append_rows k44 (w0 := w) w.heap.size rfl (.tmp 85) (.tmp 88) 23 44 (.agg #[(.string ⟨#[]⟩), (.string ⟨#[]⟩)]) 32 rfl Tryz.underlying23 info44 rfl (by decide) (by omega) v222 y221 y224 _ _ _ (fun k_ => some k_ ≠ (.slice (some ad211) x4_1.length co18 : Value).ownBlock) (fun _ => False) rfl rfl ?aO ?aR (fun _ _ h => h) (fun _ h => h.elim) ?aF ?aB ?aS ?aL ?_; (case aR => repeat (first | exact (by repeat (first | (with_reducible exact HR227.out) | (with_reducible refine Kd.C_alloc ?_ _) | (with_reducible refine Kd.C_drewN ?_ _) | (with_reducible refine Kd.C_drew ?_) | exact HR227.out)) | (with_reducible refine Kd.C_alloc ?_ _) | (with_reducible refine Kd.C_drewN ?_ _) | (with_reducible refine Kd.C_drew ?_))); (case aB => exact (by repeat (first | (with_reducible first | exact HB.out | apply below_alloc | apply pw_below_drewN | apply below_drew1) | exact HB.out))); (case aF => exact (fun k_ hk => Kd.fresh' (Kd.R_lt (by (with_reducible repeat (first | apply Kd.R_alloc | apply Kd.R_drewN | apply Kd.R_drew)); exact HO_4.out)) k_ hk)); (case aO => exact (by (with_reducible repeat (first | apply Kd.R_alloc | apply Kd.R_drewN | apply Kd.R_drew)); exact HO223.out)); (case aS => exact (below_size (by repeat (first | (with_reducible first | exact HB.out | apply below_alloc | apply pw_below_drewN | apply below_drew1) | exact HB.out)))); (case aL => have := LMc32.out; omega); intro v229 w37 ho hb hg hat; rw [← Ny228.out] at ho; have n0_ := Aside0.mk (Kd.R_after (ok := (fun _ => True)) (by (with_reducible repeat (first | apply Kd.R_alloc | apply Kd.R_drewN | apply Kd.R_drew)); exact HO_4.out) hg hat); have n1_ := Aside0.mk (hb); have n2_ := Aside0.mk ((show Kd.C k44 w37 (some ad211) y213.length y213 from by rw [Ny213.out]; exact Kd.C_take (m := (x7_4 : Int).toNat) ((Kd.R_reads' (Kd.R_after (ok := (fun _ => True)) (by (with_reducible repeat (first | apply Kd.R_alloc | apply Kd.R_drewN | apply Kd.R_drew)); exact HO_4.out) hg hat)).2.2) KL33.out)); have n3_ := Aside0.mk ((show Kd.C k44 w37 A36 y224.length y224 from by rw [Ny224.out, KA36.out]; exact Kd.C_drop (m := (x7_4 : Int).toNat) (c := co18) ((Kd.R_reads' (Kd.R_after (ok := (fun _ => True)) (by (with_reducible repeat (first | apply Kd.R_alloc | apply Kd.R_drewN | apply Kd.R_drew)); exact HO_4.out) hg hat)).2.2) KL36.out ((Kd.R_reads' (Kd.R_after (ok := (fun _ => True)) (by (with_reducible repeat (first | apply Kd.R_alloc | apply Kd.R_drewN | apply Kd.R_drew)); exact HO_4.out) hg hat)).2.1))); have n4_ := Aside0.mk (ho); clear HO_4; clear HB; clear HR216; clear HR227; clear HO223; have HO_4 := n0_; have HB := n1_; have HR216 := n2_; have HR227 := n3_; have HO230 := n4_; clear n0_ n1_ n2_ n3_ n4_; clear ho hb hg hat)))
                          go_roundg k4
                          case measure => have := HK1.out; have := HJ2.out; have := HK3.out; have := HK4.out; omega
                          case rel => exact ⟨(y228), (wrap64 (x5_1 + 1)), (by first | rfl | (simp; done) | (simp [*]; done)), H', ⟨by have := HK1.out; have := HJ2.out; have := HK3.out; have := HK4.out; omega⟩, ⟨by (with_reducible repeat (first | apply Kd.R_alloc | apply Kd.R_drewN | apply Kd.R_drew)); exact Kd.R_mono HO230.out (fun _ hk => trivial)⟩, ⟨by repeat (first | (with_reducible first | exact HB.out | apply below_alloc | apply pw_below_drewN | apply below_drew1) | exact HB.out)⟩⟩
                         ·rw [if_neg c32] at H
                          exact absurd H (by simp)
                        ·rw [if_neg c29] at H
                         exact absurd H (by simp)
                       ·rw [if_neg c28] at H
                        exact absurd H (by simp)
                      ·rw [if_neg c27] at H
                       exact absurd H (by simp)
                     ·rw [if_neg c26] at H
                      exact absurd H (by simp)
                   ·rw [if_neg c24] at H
                    exact absurd H (by simp)
                  ·rw [if_neg c23] at H
                   exact absurd H (by simp)
                 ·rw [if_neg c22] at H
                  exact absurd H (by simp)
                ·rw [if_neg c21] at H
                 exact absurd H (by simp)
               ·rw [if_neg c19] at H
                have c19b0 : decide (0 < x7_4) = false := decide_eq_false c19
                clear c19
                by_cases c38 : 0 ≤ x7_4
                ·rw [if_pos c38] at H
                 have c38b0 := eq_true c38
                 have c38b1 : decide (0 ≤ x7_4) = true := decide_eq_true c38
                 clear c38
                 by_cases c39 : x7_4 ≤ (x4_1.length : Int)
                 ·rw [if_pos c39] at H
                  have c39b0 := eq_true c39
                  have c39b1 : decide (x7_4 ≤ (x4_1.length : Int)) = true := decide_eq_true c39
                  clear c39
                  obtain ⟨y231, hy231⟩ : ∃ y_ : List (S44), y_ = (x4_1.take (x7_4 : Int).toNat) := ⟨_, rfl⟩
                  replace H : (if ([] : List (S44)).length + y231.length < 4398046511104 then ((some (([] : List (S44)) ++ y231 : List (S44))).bind fun y235 => (if 0 ≤ x5_1 then (if x5_1 < (l0.length : Int) then (if y235.length < 4398046511104 then ((some (y235 ++ [(⟨(rd_T44 l0 x5_1).f0, (rd_T44 l0 x5_1).f1⟩ : S44)] : List (S44))).bind fun y239 => ((some (x4_1.drop (x7_4 : Int).toNat : List (S44))).bind fun y242 => (if y239.length + y242.length < 4398046511104 then (soundingsref01_Make.l0 k4 l0 (y239 ++ y242) (wrap64 (x5_1 + 1))) else (none)))) else (none)) else (none)) else (none))) else (none)) = some (r1, r2) := by first | (rw [hy231]; with_reducible exact H) | (have H2_ := (Option.bind_some _ _).symm.trans H; rw [hy231]; with_reducible exact H2_) | (have H2_ := (Option.bind_some _ _).symm.trans H; with_reducible exact H2_) | with_reducible exact H | (rw [hy231]; exact H) | exact H
                  have Ny231 := Aside0.mk hy231
                  clear hy231
                  by_cases c40 : ([] : List (S44)).length + y231.length < 4398046511104
                  ·rw [if_pos c40] at H
                   have LMc40 := Aside0.mk c40
                   clear c40
                   obtain ⟨y235, hy235⟩ : ∃ y_ : List (S44), y_ = (([] : List (S44)) ++ y231) := ⟨_, rfl⟩
                   replace H : (if 0 ≤ x5_1 then (if x5_1 < (l0.length : Int) then (if y235.length < 4398046511104 then ((some (y235 ++ [(⟨(rd_T44 l0 x5_1).f0, (rd_T44 l0 x5_1).f1⟩ : S44)] : List (S44))).bind fun y239 => ((some (x4_1.drop (x7_4 : Int).toNat : List (S44))).bind fun y242 => (if y239.length + y242.length < 4398046511104 then (soundingsref01_Make.l0 k4 l0 (y239 ++ y242) (wrap64 (x5_1 + 1))) else (none)))) else (none)) else (none)) else (none)) = some (r1, r2) := by first | (rw [hy235]; with_reducible exact H) | (have H2_ := (Option.bind_some _ _).symm.trans H; rw [hy235]; with_reducible exact H2_) | (have H2_ := (Option.bind_some _ _).symm.trans H; with_reducible exact H2_) | with_reducible exact H | (rw [hy235]; exact H) | exact H
                   have Ny235 := Aside0.mk hy235
                   clear hy235
                   by_cases c41 : 0 ≤ x5_1
                   ·rw [if_pos c41] at H
                    have c41b0 : decide (0 ≤ x5_1) = true := decide_eq_true c41
                    clear c41
                    by_cases c42 : x5_1 < (l0.length : Int)
                    ·rw [if_pos c42] at H
                     have c42b0 : decide (x5_1 < (l0.length : Int)) = true := decide_eq_true c42
                     clear c42
                     by_cases c43 : y235.length < 4398046511104
                     ·rw [if_pos c43] at H
                      have LMc43 := Aside0.mk c43
                      clear c43
                      obtain ⟨y239, hy239⟩ : ∃ y_ : List (S44), y_ = (y235 ++ [(⟨(rd_T44 l0 x5_1).f0, (rd_T44 l0 x5_1).f1⟩ : S44)]) := ⟨_, rfl⟩
                      replace H : ((some (x4_1.drop (x7_4 : Int).toNat : List (S44))).bind fun y242 => (if y239.length + y242.length < 4398046511104 then (soundingsref01_Make.l0 k4 l0 (y239 ++ y242) (wrap64 (x5_1 + 1))) else (none))) = some (r1, r2) := by first | (rw [hy239]; with_reducible exact H) | (have H2_ := (Option.bind_some _ _).symm.trans H; rw [hy239]; with_reducible exact H2_) | (have H2_ := (Option.bind_some _ _).symm.trans H; with_reducible exact H2_) | with_reducible exact H | (rw [hy239]; exact H) | exact H
                      have Ny239 := Aside0.mk hy239
                      clear hy239
                      have c44b0 := eq_true (of_decide_eq_true (by first | (with_reducible assumption) | assumption) : 0 ≤ x7_4)
                      have c45b0 := eq_true (of_decide_eq_true (by first | (with_reducible assumption) | assumption) : x7_4 ≤ (x4_1.length : Int))
                      obtain ⟨y242, hy242⟩ : ∃ y_ : List (S44), y_ = (x4_1.drop (x7_4 : Int).toNat) := ⟨_, rfl⟩
                      replace H : (if y239.length + y242.length < 4398046511104 then (soundingsref01_Make.l0 k4 l0 (y239 ++ y242) (wrap64 (x5_1 + 1))) else (none)) = some (r1, r2) := by first | (rw [hy242]; with_reducible exact H) | (have H2_ := (Option.bind_some _ _).symm.trans H; rw [hy242]; with_reducible exact H2_) | (have H2_ := (Option.bind_some _ _).symm.trans H; with_reducible exact H2_) | with_reducible exact H | (rw [hy242]; exact H) | exact H
                      have Ny242 := Aside0.mk hy242
                      clear hy242
                      by_cases c46 : y239.length + y242.length < 4398046511104
                      ·rw [if_pos c46] at H
                       have LMc46 := Aside0.mk c46
                       clear c46
                       obtain ⟨y246, hy246⟩ : ∃ y_ : List (S44), y_ = (y239 ++ y242) := ⟨_, rfl⟩
                       replace H : (soundingsref01_Make.l0 k4 l0 y246 (wrap64 (x5_1 + 1))) = some (r1, r2) := by first | (rw [hy246]; with_reducible exact H) | (have H2_ := (Option.bind_some _ _).symm.trans H; rw [hy246]; with_reducible exact H2_) | (have H2_ := (Option.bind_some _ _).symm.trans H; with_reducible exact H2_) | with_reducible exact H | (rw [hy246]; exact H) | exact H
                       have Ny246 := Aside0.mk hy246
                       clear hy246
                       have H' := Aside0.mk H
                       clear H
                       have q47 : (x7_4 : Int) ≤ ((x4_1.length : Int) : Int) := of_decide_eq_true (by first | (with_reducible assumption) | assumption)
                       obtain ⟨i047, hi047, _, hsz47, _⟩ := info_parts info44
                       have hroom47 : x4_1.length ≤ co18 := (Kd.R_reads' HO_4.out).2.1
                       have hC47 : Kd.C k44 _ Ao18 x4_1.length x4_1 := (Kd.R_reads' HO_4.out).2.2
                       have hcut47 := cut_to (P := Tryz.prog) 23 44 .i64 Tryz.underlying23 hi047 Ao18 x4_1.length co18 x7_4 (of_decide_eq_true (by first | (with_reducible assumption) | assumption)) q47 hroom47
                       have hr47 := Kd.C_take (m := (x7_4 : Int).toNat) hC47 (by omega)
                       have hy47 : y231.length = (x7_4 : Int).toNat := (by rw [Ny231.out, List.length_take]; omega)
                       rw [← Ny231.out] at hr47
                       rw [← hy47] at hcut47
                       have HR234 := Aside0.mk hr47
                       have HC234 := Aside0.mk (show y231.length ≤ co18 from by omega)
                       clear hr47 hC47 hroom47 hi047 hsz47
                       have KY47 := Aside0.mk hy47
                       clear hy47
                       have KL47 := Aside0.mk (show (x7_4 : Int).toNat ≤ x4_1.length from by omega)
                       replace q47 := eq_true q47
                       go_wp2_with (first | ((with_reducible refine gate_builtin (b := .append) (xs := #[.tmp 73, .tmp 76]) rfl ?_); at_builtin; refine Kd.R_append_rows k44 (w0 := w) w.heap.size rfl (.tmp 73) (.tmp 76) 23 44 (.agg #[(.string ⟨#[]⟩), (.string ⟨#[]⟩)]) 32 rfl Tryz.underlying23 info44 rfl (by decide) (by omega) (.slice none 0 0) ([] : List (S44)) y231 _ _ _ (fun k_ => some k_ ≠ (.slice Ao18 x4_1.length co18 : Value).ownBlock) (fun _ => False) rfl rfl ?aO ?aR (fun _ _ h => h) (fun _ h => h.elim) ?aF ?aB ?aS ?aL ?_; (case aR => repeat (first | exact (by repeat (first | (with_reducible exact HR234.out) | (with_reducible refine Kd.C_alloc ?_ _) | (with_reducible refine Kd.C_drewN ?_ _) | (with_reducible refine Kd.C_drew ?_) | exact HR234.out)) | (with_reducible refine Kd.C_alloc ?_ _) | (with_reducible refine Kd.C_drewN ?_ _) | (with_reducible refine Kd.C_drew ?_))); (case aB => exact (by repeat (first | (with_reducible first | exact HB.out | apply below_alloc | apply pw_below_drewN | apply below_drew1) | exact HB.out))); (case aF => exact (fun k_ hk => Kd.fresh' (Kd.R_lt (by (with_reducible repeat (first | apply Kd.R_alloc | apply Kd.R_drewN | apply Kd.R_drew)); exact HO_4.out)) k_ hk)); (case aO => exact ((Kd.R_nil _ _ _ _ (fun k_ => some k_ ≠ (.slice Ao18 x4_1.length co18 : Value).ownBlock)))); (case aS => exact (below_size (by repeat (first | (with_reducible first | exact HB.out | apply below_alloc | apply pw_below_drewN | apply below_drew1) | exact HB.out)))); (case aL => have := LMc40.out; omega); intro v236 w48 ho hb hg hat; rw [← Ny235.out] at ho; have n0_ := Aside0.mk (Kd.R_after (Kd.R_apart_nil (by (with_reducible repeat (first | apply Kd.R_alloc | apply Kd.R_drewN | apply Kd.R_drew)); exact HO_4.out)) hg hat); have n1_ := Aside0.mk (hb); have n2_ := Aside0.mk ((show Kd.C k44 w48 Ao18 y231.length y231 from by rw [Ny231.out]; exact Kd.C_take (m := (x7_4 : Int).toNat) ((Kd.R_reads' (Kd.R_after (Kd.R_apart_nil (by (with_reducible repeat (first | apply Kd.R_alloc | apply Kd.R_drewN | apply Kd.R_drew)); exact HO_4.out)) hg hat)).2.2) KL47.out)); have n3_ := Aside0.mk (ho); clear HO_4; clear HB; clear HR234; have HO_4 := n0_; have HB := n1_; have HR234 := n2_; have HO237 := n3_; clear n0_ n1_ n2_ n3_; clear ho hb hg hat; have p238 : 0 ≤ (x5_1 : Int) := of_decide_eq_true (by first | (with_reducible assumption) | assumption); have q238 : x5_1 < (l0.length : Int) := of_decide_eq_true (by first | (with_reducible assumption) | assumption); obtain ⟨ad238, e238, hx238_0, hx238_1⟩ := at_T44 HR0.out x5_1 p238 q238; obtain rfl : ad210 = ad238 := (by injection e238); replace hx238_0 := (HB.out.cell (World.block_lt_of_cell? w _ hx238_0)).trans hx238_0; replace hx238_1 := (HB.out.cell (World.block_lt_of_cell? w _ hx238_1)).trans hx238_1; replace p238 := eq_true p238; replace q238 := eq_true q238) | ((with_reducible refine gate_builtin (b := .append) (xs := #[.tmp 78, .tmp 83]) rfl ?_); at_builtin; refine Kd.R_append k44 (w0 := w) w.heap.size rfl (.tmp 78) (.tmp 83) 23 44 (.agg #[(.string ⟨#[]⟩), (.string ⟨#[]⟩)]) 32 rfl Tryz.underlying23 info44 rfl (by decide) (by omega) v236 y235 (⟨(rd_T44 l0 x5_1).f0, (rd_T44 l0 x5_1).f1⟩ : S44) [.string ((rd_T44 l0 x5_1).f0), .string ((rd_T44 l0 x5_1).f1)] (fun k_ => some k_ ≠ (.slice Ao18 x4_1.length co18 : Value).ownBlock) (fun _ => False) rfl rfl ?aP (fun _ hk => hk.elim) ?aF ?aO ?aB ?aS ?aL ?_; (case aP => exact k44_mkM _ _ _ (⟨(rd_T44 l0 x5_1).f0, (rd_T44 l0 x5_1).f1⟩ : S44)); (case aB => exact (by repeat (first | (with_reducible first | exact HB.out | apply below_alloc | apply pw_below_drewN | apply below_drew1) | exact HB.out))); (case aF => exact (fun k_ hk => Kd.fresh' (Kd.R_lt (by (with_reducible repeat (first | apply Kd.R_alloc | apply Kd.R_drewN | apply Kd.R_drew)); exact HO_4.out)) k_ hk)); (case aO => exact (by (with_reducible repeat (first | apply Kd.R_alloc | apply Kd.R_drewN | apply Kd.R_drew)); exact HO237.out)); (case aS => exact (below_size (by repeat (first | (with_reducible first | exact HB.out | apply below_alloc | apply pw_below_drewN | apply below_drew1) | exact HB.out)))); (case aL => have := LMc43.out; omega); intro v240 w49 ho hb hg hat; rw [← Ny239.out] at ho; have n0_ := Aside0.mk (Kd.R_after (ok := (fun _ => True)) (by (with_reducible repeat (first | apply Kd.R_alloc | apply Kd.R_drewN | apply Kd.R_drew)); exact HO_4.out) hg hat); have n1_ := Aside0.mk (hb); have n2_ := Aside0.mk ((show Kd.C k44 w49 Ao18 y231.length y231 from by rw [Ny231.out]; exact Kd.C_take (m := (x7_4 : Int).toNat) ((Kd.R_reads' (Kd.R_after (ok := (fun _ => True)) (by (with_reducible repeat (first | apply Kd.R_alloc | apply Kd.R_drewN | apply Kd.R_drew)); exact HO_4.out) hg hat)).2.2) KL47.out)); have n3_ := Aside0.mk (ho); clear HO_4; clear HB; clear HR234; clear HO237; have HO_4 := n0_; have HB := n1_; have HR234 := n2_; have HO241 := n3_; clear n0_ n1_ n2_ n3_; clear ho hb hg hat; have q50 : (x7_4 : Int) ≤ ((x4_1.length : Int) : Int) := of_decide_eq_true (by first | (with_reducible assumption) | assumption); obtain ⟨i050, hi050, _, hsz50, _⟩ := info_parts info44; have hroom50 : x4_1.length ≤ co18 := (Kd.R_reads' HO_4.out).2.1; have hC50 : Kd.C k44 _ Ao18 x4_1.length x4_1 := (Kd.R_reads' HO_4.out).2.2; have q050 : (0 : Int) ≤ (x7_4 : Int) := of_decide_eq_true (by first | (with_reducible assumption) | assumption); have hcut50 := cut_from (P := Tryz.prog) 23 44 .i64 Tryz.underlying23 hi050 2 hsz50 Ao18 x4_1.length co18 x7_4 q050 q50; have hr50 := Kd.C_drop (m := (x7_4 : Int).toNat) (c := co18) hC50 (by omega) hroom50; obtain ⟨A50, hA50⟩ : ∃ A1, A1 = (if co18 = (x7_4 : Int).toNat then Ao18 else (Ao18 : Option Addr).map (·.add ((x7_4 : Int).toNat * 2))) := ⟨_, rfl⟩; obtain ⟨c50, hc50⟩ : ∃ c1, c1 = co18 - (x7_4 : Int).toNat := ⟨_, rfl⟩; have hy50 : y242.length = x4_1.length - (x7_4 : Int).toNat := (by rw [Ny242.out, List.length_drop] <;> omega); rw [show (x4_1).drop (x7_4 : Int).toNat = y242 from Ny242.out.symm] at hr50; replace hr50 : Kd.C k44 _ A50 y242.length y242 := (by rw [hA50]; exact hr50); rw [← hy50, ← hA50, ← hc50] at hcut50; have HR245 := Aside0.mk hr50; have HC245 := Aside0.mk (show y242.length ≤ c50 from by rw [hy50, hc50]; exact Nat.sub_le_sub_right hroom50 _); clear hr50 hC50 hroom50 hi050 hsz50 hc50; have KY50 := Aside0.mk hy50; have KA50 := Aside0.mk hA50; clear hy50 hA50; have KL50 := Aside0.mk (show (x7_4 : Int).toNat ≤ x4_1.length from by omega); replace q50 := eq_true q50) | ((with_reducible refine gate_builtin (b := .append) (xs := #[.tmp 85, .tmp 88]) rfl ?_); at_builtin; refine Kd.R_append_rows k44 (w0 := w) w.heap.size rfl (.tmp 85) (.tmp 88) 23 44 (.agg #[(.string ⟨#[]⟩), (.string ⟨#[]⟩)]) 32 rfl Tryz.underlying23 info44 rfl (by decide) (by omega) v240 y239 y242 _ _ _ (fun k_ => some k_ ≠ (.slice Ao18 x4_1.length co18 : Value).ownBlock) (fun _ => False) rfl rfl ?aO ?aR (fun _ _ h => h) (fun _ h => h.elim) ?aF ?aB ?aS ?aL ?_; (case aR => repeat (first | exact (by repeat (first | (with_reducible exact HR245.out) | (with_reducible refine Kd.C_alloc ?_ _) | (with_reducible refine Kd.C_drewN ?_ _) | (with_reducible refine Kd.C_drew ?_) | exact HR245.out)) | (with_reducible refine Kd.C_alloc ?_ _) | (with_reducible refine Kd.C_drewN ?_ _) | (with_reducible refine Kd.C_drew ?_))); (case aB => exact (by repeat (first | (with_reducible first | exact HB.out | apply below_alloc | apply pw_below_drewN | apply below_drew1) | exact HB.out))); (case aF => exact (fun k_ hk => Kd.fresh' (Kd.R_lt (by (with_reducible repeat (first | apply Kd.R_alloc | apply Kd.R_drewN | apply Kd.R_drew)); exact HO_4.out)) k_ hk)); (case aO => exact (by (with_reducible repeat (first | apply Kd.R_alloc | apply Kd.R_drewN | apply Kd.R_drew)); exact HO241.out)); (case aS => exact (below_size (by repeat (first | (with_reducible first | exact HB.out | apply below_alloc | apply pw_below_drewN | apply below_drew1) | exact HB.out)))); (case aL => have := LMc46.out; omega); intro v247 w51 ho hb hg hat; rw [← Ny246.out] at ho; have n0_ := Aside0.mk (Kd.R_after (ok := (fun _ => True)) (by (with_reducible repeat (first | apply Kd.R_alloc | apply Kd.R_drewN | apply Kd.R_drew)); exact HO_4.out) hg hat); have n1_ := Aside0.mk (hb); have n2_ := Aside0.mk ((show Kd.C k44 w51 Ao18 y231.length y231 from by rw [Ny231.out]; exact Kd.C_take (m := (x7_4 : Int).toNat) ((Kd.R_reads' (Kd.R_after (ok := (fun _ => True)) (by (with_reducible repeat (first | apply Kd.R_alloc | apply Kd.R_drewN | apply Kd.R_drew)); exact HO_4.out) hg hat)).2.2) KL47.out)); have n3_ := Aside0.mk ((show Kd.C k44 w51 A50 y242.length y242 from by rw [Ny242.out, KA50.out]; exact Kd.C_drop (m := (x7_4 : Int).toNat) (c := co18) ((Kd.R_reads' (Kd.R_after (ok := (fun _ => True)) (by (with_reducible repeat (first | apply Kd.R_alloc | apply Kd.R_drewN | apply Kd.R_drew)); exact HO_4.out) hg hat)).2.2) KL50.out ((Kd.R_reads' (Kd.R_after (ok := (fun _ => True)) (by (with_reducible repeat (first | apply Kd.R_alloc | apply Kd.R_drewN | apply Kd.R_drew)); exact HO_4.out) hg hat)).2.1))); have n4_ := Aside0.mk (ho); clear HO_4; clear HB; clear HR234; clear HR245; clear HO241; have HO_4 := n0_; have HB := n1_; have HR234 := n2_; have HR245 := n3_; have HO248 := n4_; clear n0_ n1_ n2_ n3_ n4_; clear ho hb hg hat))
                       repeat (go_quiet (first | ((with_reducible refine gate_builtin (b := .append) (xs := #[.tmp 73, .tmp 76]) rfl ?_); at_builtin; refine Kd.R_append_rows k44 (w0 := w) w.heap.size rfl (.tmp 73) (.tmp 76) 23 44 (.agg #[(.string ⟨#[]⟩), (.string ⟨#[]⟩)]) 32 rfl Tryz.underlying23 info44 rfl (by decide) (by omega) (.slice none 0 0) ([] : List (S44)) y231 _ _ _ (fun k_ => some k_ ≠ (.slice Ao18 x4_1.length co18 : Value).ownBlock) (fun _ => False) rfl rfl ?aO ?aR (fun _ _ h => h) (fun _ h => h.elim) ?aF ?aB ?aS ?aL ?_; (case aR => repeat (first | exact (by repeat (first | (with_reducible exact HR234.out) | (with_reducible refine Kd.C_alloc ?_ _) | (with_reducible refine Kd.C_drewN ?_ _) | (with_reducible refine Kd.C_drew ?_) | exact HR234.out)) | (with_reducible refine Kd.C_alloc ?_ _) | (with_reducible refine Kd.C_drewN ?_ _) | (with_reducible refine Kd.C_drew ?_))); (case aB => exact (by repeat (first | (with_reducible first | exact HB.out | apply below_alloc | apply pw_below_drewN | apply below_drew1) | exact HB.out))); (case aF => exact (fun k_ hk => Kd.fresh' (Kd.R_lt (by (with_reducible repeat (first | apply Kd.R_alloc | apply Kd.R_drewN | apply Kd.R_drew)); exact HO_4.out)) k_ hk)); (case aO => exact ((Kd.R_nil _ _ _ _ (fun k_ => some k_ ≠ (.slice Ao18 x4_1.length co18 : Value).ownBlock)))); (case aS => exact (below_size (by repeat (first | (with_reducible first | exact HB.out | apply below_alloc | apply pw_below_drewN | apply below_drew1) | exact HB.out)))); (case aL => have := LMc40.out; omega); intro v236 w48 ho hb hg hat; rw [← Ny235.out] at ho; have n0_ := Aside0.mk (Kd.R_after (Kd.R_apart_nil (by (with_reducible repeat (first | apply Kd.R_alloc | apply Kd.R_drewN | apply Kd.R_drew)); exact HO_4.out)) hg hat); have n1_ := Aside0.mk (hb); have n2_ := Aside0.mk ((show Kd.C k44 w48 Ao18 y231.length y231 from by rw [Ny231.out]; exact Kd.C_take (m := (x7_4 : Int).toNat) ((Kd.R_reads' (Kd.R_after (Kd.R_apart_nil (by (with_reducible repeat (first | apply Kd.R_alloc | apply Kd.R_drewN | apply Kd.R_drew)); exact HO_4.out)) hg hat)).2.2) KL47.out)); have n3_ := Aside0.mk (ho); clear HO_4; clear HB; clear HR234; have HO_4 := n0_; have HB := n1_; have HR234 := n2_; have HO237 := n3_; clear n0_ n1_ n2_ n3_; clear ho hb hg hat; have p238 : 0 ≤ (x5_1 : Int) := of_decide_eq_true (by first | (with_reducible assumption) | assumption); have q238 : x5_1 < (l0.length : Int) := of_decide_eq_true (by first | (with_reducible assumption) | assumption); obtain ⟨ad238, e238, hx238_0, hx238_1⟩ := at_T44 HR0.out x5_1 p238 q238; obtain rfl : ad210 = ad238 := (by injection e238); replace hx238_0 := (HB.out.cell (World.block_lt_of_cell? w _ hx238_0)).trans hx238_0; replace hx238_1 := (HB.out.cell (World.block_lt_of_cell? w _ hx238_1)).trans hx238_1; replace p238 := eq_true p238; replace q238 := eq_true q238) | ((with_reducible refine gate_builtin (b := .append) (xs := #[.tmp 78, .tmp 83]) rfl ?_); at_builtin; refine Kd.R_append k44 (w0 := w) w.heap.size rfl (.tmp 78) (.tmp 83) 23 44 (.agg #[(.string ⟨#[]⟩), (.string ⟨#[]⟩)]) 32 rfl Tryz.underlying23 info44 rfl (by decide) (by omega) v236 y235 (⟨(rd_T44 l0 x5_1).f0, (rd_T44 l0 x5_1).f1⟩ : S44) [.string ((rd_T44 l0 x5_1).f0), .string ((rd_T44 l0 x5_1).f1)] (fun k_ => some k_ ≠ (.slice Ao18 x4_1.length co18 : Value).ownBlock) (fun _ => False) rfl rfl ?aP (fun _ hk => hk.elim) ?aF ?aO ?aB ?aS ?aL ?_; (case aP => exact k44_mkM _ _ _ (⟨(rd_T44 l0 x5_1).f0, (rd_T44 l0 x5_1).f1⟩ : S44)); (case aB => exact (by repeat (first | (with_reducible first | exact HB.out | apply below_alloc | apply pw_below_drewN | apply below_drew1) | exact HB.out))); (case aF => exact (fun k_ hk => Kd.fresh' (Kd.R_lt (by (with_reducible repeat (first | apply Kd.R_alloc | apply Kd.R_drewN | apply Kd.R_drew)); exact HO_4.out)) k_ hk)); (case aO => exact (by (with_reducible repeat (first | apply Kd.R_alloc | apply Kd.R_drewN | apply Kd.R_drew)); exact HO237.out)); (case aS => exact (below_size (by repeat (first | (with_reducible first | exact HB.out | apply below_alloc | apply pw_below_drewN | apply below_drew1) | exact HB.out)))); (case aL => have := LMc43.out; omega); intro v240 w49 ho hb hg hat; rw [← Ny239.out] at ho; have n0_ := Aside0.mk (Kd.R_after (ok := (fun _ => True)) (by (with_reducible repeat (first | apply Kd.R_alloc | apply Kd.R_drewN | apply Kd.R_drew)); exact HO_4.out) hg hat); have n1_ := Aside0.mk (hb); have n2_ := Aside0.mk ((show Kd.C k44 w49 Ao18 y231.length y231 from by rw [Ny231.out]; exact Kd.C_take (m := (x7_4 : Int).toNat) ((Kd.R_reads' (Kd.R_after (ok := (fun _ => True)) (by (with_reducible repeat (first | apply Kd.R_alloc | apply Kd.R_drewN | apply Kd.R_drew)); exact HO_4.out) hg hat)).2.2) KL47.out)); have n3_ := Aside0.mk (ho); clear HO_4; clear HB; clear HR234; clear HO237; have HO_4 := n0_; have HB := n1_; have HR234 := n2_; have HO241 := n3_; clear n0_ n1_ n2_ n3_; clear ho hb hg hat; have q50 : (x7_4 : Int) ≤ ((x4_1.length : Int) : Int) := of_decide_eq_true (by first | (with_reducible assumption) | assumption); obtain ⟨i050, hi050, _, hsz50, _⟩ := info_parts info44; have hroom50 : x4_1.length ≤ co18 := (Kd.R_reads' HO_4.out).2.1; have hC50 : Kd.C k44 _ Ao18 x4_1.length x4_1 := (Kd.R_reads' HO_4.out).2.2; have q050 : (0 : Int) ≤ (x7_4 : Int) := of_decide_eq_true (by first | (with_reducible assumption) | assumption); have hcut50 := cut_from (P := Tryz.prog) 23 44 .i64 Tryz.underlying23 hi050 2 hsz50 Ao18 x4_1.length co18 x7_4 q050 q50; have hr50 := Kd.C_drop (m := (x7_4 : Int).toNat) (c := co18) hC50 (by omega) hroom50; obtain ⟨A50, hA50⟩ : ∃ A1, A1 = (if co18 = (x7_4 : Int).toNat then Ao18 else (Ao18 : Option Addr).map (·.add ((x7_4 : Int).toNat * 2))) := ⟨_, rfl⟩; obtain ⟨c50, hc50⟩ : ∃ c1, c1 = co18 - (x7_4 : Int).toNat := ⟨_, rfl⟩; have hy50 : y242.length = x4_1.length - (x7_4 : Int).toNat := (by rw [Ny242.out, List.length_drop] <;> omega); rw [show (x4_1).drop (x7_4 : Int).toNat = y242 from Ny242.out.symm] at hr50; replace hr50 : Kd.C k44 _ A50 y242.length y242 := (by rw [hA50]; exact hr50); rw [← hy50, ← hA50, ← hc50] at hcut50; have HR245 := Aside0.mk hr50; have HC245 := Aside0.mk (show y242.length ≤ c50 from by rw [hy50, hc50]; exact Nat.sub_le_sub_right hroom50 _); clear hr50 hC50 hroom50 hi050 hsz50 hc50; have KY50 := Aside0.mk hy50; have KA50 := Aside0.mk hA50; clear hy50 hA50; have KL50 := Aside0.mk (show (x7_4 : Int).toNat ≤ x4_1.length from by omega); replace q50 := eq_true q50) | ((with_reducible refine gate_builtin (b := .append) (xs := #[.tmp 85, .tmp 88]) rfl ?_); at_builtin; refine Kd.R_append_rows k44 (w0 := w) w.heap.size rfl (.tmp 85) (.tmp 88) 23 44 (.agg #[(.string ⟨#[]⟩), (.string ⟨#[]⟩)]) 32 rfl Tryz.underlying23 info44 rfl (by decide) (by omega) v240 y239 y242 _ _ _ (fun k_ => some k_ ≠ (.slice Ao18 x4_1.length co18 : Value).ownBlock) (fun _ => False) rfl rfl ?aO ?aR (fun _ _ h => h) (fun _ h => h.elim) ?aF ?aB ?aS ?aL ?_; (case aR => repeat (first | exact (by repeat (first | (with_reducible exact HR245.out) | (with_reducible refine Kd.C_alloc ?_ _) | (with_reducible refine Kd.C_drewN ?_ _) | (with_reducible refine Kd.C_drew ?_) | exact HR245.out)) | (with_reducible refine Kd.C_alloc ?_ _) | (with_reducible refine Kd.C_drewN ?_ _) | (with_reducible refine Kd.C_drew ?_))); (case aB => exact (by repeat (first | (with_reducible first | exact HB.out | apply below_alloc | apply pw_below_drewN | apply below_drew1) | exact HB.out))); (case aF => exact (fun k_ hk => Kd.fresh' (Kd.R_lt (by (with_reducible repeat (first | apply Kd.R_alloc | apply Kd.R_drewN | apply Kd.R_drew)); exact HO_4.out)) k_ hk)); (case aO => exact (by (with_reducible repeat (first | apply Kd.R_alloc | apply Kd.R_drewN | apply Kd.R_drew)); exact HO241.out)); (case aS => exact (below_size (by repeat (first | (with_reducible first | exact HB.out | apply below_alloc | apply pw_below_drewN | apply below_drew1) | exact HB.out)))); (case aL => have := LMc46.out; omega); intro v247 w51 ho hb hg hat; rw [← Ny246.out] at ho; have n0_ := Aside0.mk (Kd.R_after (ok := (fun _ => True)) (by (with_reducible repeat (first | apply Kd.R_alloc | apply Kd.R_drewN | apply Kd.R_drew)); exact HO_4.out) hg hat); have n1_ := Aside0.mk (hb); have n2_ := Aside0.mk ((show Kd.C k44 w51 Ao18 y231.length y231 from by rw [Ny231.out]; exact Kd.C_take (m := (x7_4 : Int).toNat) ((Kd.R_reads' (Kd.R_after (ok := (fun _ => True)) (by (with_reducible repeat (first | apply Kd.R_alloc | apply Kd.R_drewN | apply Kd.R_drew)); exact HO_4.out) hg hat)).2.2) KL47.out)); have n3_ := Aside0.mk ((show Kd.C k44 w51 A50 y242.length y242 from by rw [Ny242.out, KA50.out]; exact Kd.C_drop (m := (x7_4 : Int).toNat) (c := co18) ((Kd.R_reads' (Kd.R_after (ok := (fun _ => True)) (by (with_reducible repeat (first | apply Kd.R_alloc | apply Kd.R_drewN | apply Kd.R_drew)); exact HO_4.out) hg hat)).2.2) KL50.out ((Kd.R_reads' (Kd.R_after (ok := (fun _ => True)) (by (with_reducible repeat (first | apply Kd.R_alloc | apply Kd.R_drewN | apply Kd.R_drew)); exact HO_4.out) hg hat)).2.1))); have n4_ := Aside0.mk (ho); clear HO_4; clear HB; clear HR234; clear HR245; clear HO241; have HO_4 := n0_; have HB := n1_; have HR234 := n2_; have HR245 := n3_; have HO248 := n4_; clear n0_ n1_ n2_ n3_ n4_; clear ho hb hg hat)); try go_wp2_with (first | ((with_reducible refine gate_builtin (b := .append) (xs := #[.tmp 73, .tmp 76]) rfl ?_); at_builtin; refine Kd.R_append_rows k44 (w0 := w) w.heap.size rfl (.tmp 73) (.tmp 76) 23 44 (.agg #[(.string ⟨#[]⟩), (.string ⟨#[]⟩)]) 32 rfl Tryz.underlying23 info44 rfl (by decide) (by omega) (.slice none 0 0) ([] : List (S44)) y231 _ _ _ (fun k_ => some k_ ≠ (.slice Ao18 x4_1.length co18 : Value).ownBlock) (fun _ => False) rfl rfl ?aO ?aR (fun _ _ h => h) (fun _ h => h.elim) ?aF ?aB ?aS ?aL ?_; (case aR => repeat (first | exact (by repeat (first | (with_reducible exact HR234.out) | (with_reducible refine Kd.C_alloc ?_ _) | (with_reducible refine Kd.C_drewN ?_ _) | (with_reducible refine Kd.C_drew ?_) | exact HR234.out)) | (with_reducible refine Kd.C_alloc ?_ _) | (with_reducible refine Kd.C_drewN ?_ _) | (with_reducible refine Kd.C_drew ?_))); (case aB => exact (by repeat (first | (with_reducible first | exact HB.out | apply below_alloc | apply pw_below_drewN | apply below_drew1) | exact HB.out))); (case aF => exact (fun k_ hk => Kd.fresh' (Kd.R_lt (by (with_reducible repeat (first | apply Kd.R_alloc | apply Kd.R_drewN | apply Kd.R_drew)); exact HO_4.out)) k_ hk)); (case aO => exact ((Kd.R_nil _ _ _ _ (fun k_ => some k_ ≠ (.slice Ao18 x4_1.length co18 : Value).ownBlock)))); (case aS => exact (below_size (by repeat (first | (with_reducible first | exact HB.out | apply below_alloc | apply pw_below_drewN | apply below_drew1) | exact HB.out)))); (case aL => have := LMc40.out; omega); intro v236 w48 ho hb hg hat; rw [← Ny235.out] at ho; have n0_ := Aside0.mk (Kd.R_after (Kd.R_apart_nil (by (with_reducible repeat (first | apply Kd.R_alloc | apply Kd.R_drewN | apply Kd.R_drew)); exact HO_4.out)) hg hat); have n1_ := Aside0.mk (hb); have n2_ := Aside0.mk ((show Kd.C k44 w48 Ao18 y231.length y231 from by rw [Ny231.out]; exact Kd.C_take (m := (x7_4 : Int).toNat) ((Kd.R_reads' (Kd.R_after (Kd.R_apart_nil (by (with_reducible repeat (first | apply Kd.R_alloc | apply Kd.R_drewN | apply Kd.R_drew)); exact HO_4.out)) hg hat)).2.2) KL47.out)); have n3_ := Aside0.mk (ho); clear HO_4; clear HB; clear HR234; have HO_4 := n0_; have HB := n1_; have HR234 := n2_; have HO237 := n3_; clear n0_ n1_ n2_ n3_; clear ho hb hg hat; have p238 : 0 ≤ (x5_1 : Int) := of_decide_eq_true (by first | (with_reducible assumption) | assumption); have q238 : x5_1 < (l0.length : Int) := of_decide_eq_true (by first | (with_reducible assumption) | assumption); obtain ⟨ad238, e238, hx238_0, hx238_1⟩ := at_T44 HR0.out x5_1 p238 q238; obtain rfl : ad210 = ad238 := (by injection e238); replace hx238_0 := (HB.out.cell (World.block_lt_of_cell? w _ hx238_0)).trans hx238_0; replace hx238_1 := (HB.out.cell (World.block_lt_of_cell? w _ hx238_1)).trans hx238_1; replace p238 := eq_true p238; replace q238 := eq_true q238) | ((with_reducible refine gate_builtin (b := .append) (xs := #[.tmp 78, .tmp 83]) rfl ?_); at_builtin; refine Kd.R_append k44 (w0 := w) w.heap.size rfl (.tmp 78) (.tmp 83) 23 44 (.agg #[(.string ⟨#[]⟩), (.string ⟨#[]⟩)]) 32 rfl Tryz.underlying23 info44 rfl (by decide) (by omega) v236 y235 (⟨(rd_T44 l0 x5_1).f0, (rd_T44 l0 x5_1).f1⟩ : S44) [.string ((rd_T44 l0 x5_1).f0), .string ((rd_T44 l0 x5_1).f1)] (fun k_ => some k_ ≠ (.slice Ao18 x4_1.length co18 : Value).ownBlock) (fun _ => False) rfl rfl ?aP (fun _ hk => hk.elim) ?aF ?aO ?aB ?aS ?aL ?_; (case aP => exact k44_mkM _ _ _ (⟨(rd_T44 l0 x5_1).f0, (rd_T44 l0 x5_1).f1⟩ : S44)); (case aB => exact (by repeat (first | (with_reducible first | exact HB.out | apply below_alloc | apply pw_below_drewN | apply below_drew1) | exact HB.out))); (case aF => exact (fun k_ hk => Kd.fresh' (Kd.R_lt (by (with_reducible repeat (first | apply Kd.R_alloc | apply Kd.R_drewN | apply Kd.R_drew)); exact HO_4.out)) k_ hk)); (case aO => exact (by (with_reducible repeat (first | apply Kd.R_alloc | apply Kd.R_drewN | apply Kd.R_drew)); exact HO237.out)); (case aS => exact (below_size (by repeat (first | (with_reducible first | exact HB.out | apply below_alloc | apply pw_below_drewN | apply below_drew1) | exact HB.out)))); (case aL => have := LMc43.out; omega); intro v240 w49 ho hb hg hat; rw [← Ny239.out] at ho; have n0_ := Aside0.mk (Kd.R_after (ok := (fun _ => True)) (by (with_reducible repeat (first | apply Kd.R_alloc | apply Kd.R_drewN | apply Kd.R_drew)); exact HO_4.out) hg hat); have n1_ := Aside0.mk (hb); have n2_ := Aside0.mk ((show Kd.C k44 w49 Ao18 y231.length y231 from by rw [Ny231.out]; exact Kd.C_take (m := (x7_4 : Int).toNat) ((Kd.R_reads' (Kd.R_after (ok := (fun _ => True)) (by (with_reducible repeat (first | apply Kd.R_alloc | apply Kd.R_drewN | apply Kd.R_drew)); exact HO_4.out) hg hat)).2.2) KL47.out)); have n3_ := Aside0.mk (ho); clear HO_4; clear HB; clear HR234; clear HO237; have HO_4 := n0_; have HB := n1_; have HR234 := n2_; have HO241 := n3_; clear n0_ n1_ n2_ n3_; clear ho hb hg hat; have q50 : (x7_4 : Int) ≤ ((x4_1.length : Int) : Int) := of_decide_eq_true (by first | (with_reducible assumption) | assumption); obtain ⟨i050, hi050, _, hsz50, _⟩ := info_parts info44; have hroom50 : x4_1.length ≤ co18 := (Kd.R_reads' HO_4.out).2.1; have hC50 : Kd.C k44 _ Ao18 x4_1.length x4_1 := (Kd.R_reads' HO_4.out).2.2; have q050 : (0 : Int) ≤ (x7_4 : Int) := of_decide_eq_true (by first | (with_reducible assumption) | assumption); have hcut50 := cut_from (P := Tryz.prog) 23 44 .i64 Tryz.underlying23 hi050 2 hsz50 Ao18 x4_1.length co18 x7_4 q050 q50; have hr50 := Kd.C_drop (m := (x7_4 : Int).toNat) (c := co18) hC50 (by omega) hroom50; obtain ⟨A50, hA50⟩ : ∃ A1, A1 = (if co18 = (x7_4 : Int).toNat then Ao18 else (Ao18 : Option Addr).map (·.add ((x7_4 : Int).toNat * 2))) := ⟨_, rfl⟩; obtain ⟨c50, hc50⟩ : ∃ c1, c1 = co18 - (x7_4 : Int).toNat := ⟨_, rfl⟩; have hy50 : y242.length = x4_1.length - (x7_4 : Int).toNat := (by rw [Ny242.out, List.length_drop] <;> omega); rw [show (x4_1).drop (x7_4 : Int).toNat = y242 from Ny242.out.symm] at hr50; replace hr50 : Kd.C k44 _ A50 y242.length y242 := (by rw [hA50]; exact hr50); rw [← hy50, ← hA50, ← hc50] at hcut50; have HR245 := Aside0.mk hr50; have HC245 := Aside0.mk (show y242.length ≤ c50 from by rw [hy50, hc50]; exact Nat.sub_le_sub_right hroom50 _); clear hr50 hC50 hroom50 hi050 hsz50 hc50; have KY50 := Aside0.mk hy50; have KA50 := Aside0.mk hA50; clear hy50 hA50; have KL50 := Aside0.mk (show (x7_4 : Int).toNat ≤ x4_1.length from by omega); replace q50 := eq_true q50) | ((with_reducible refine gate_builtin (b := .append) (xs := #[.tmp 85, .tmp 88]) rfl ?_); at_builtin; refine Kd.R_append_rows k44 (w0 := w) w.heap.size rfl (.tmp 85) (.tmp 88) 23 44 (.agg #[(.string ⟨#[]⟩), (.string ⟨#[]⟩)]) 32 rfl Tryz.underlying23 info44 rfl (by decide) (by omega) v240 y239 y242 _ _ _ (fun k_ => some k_ ≠ (.slice Ao18 x4_1.length co18 : Value).ownBlock) (fun _ => False) rfl rfl ?aO ?aR (fun _ _ h => h) (fun _ h => h.elim) ?aF ?aB ?aS ?aL ?_; (case aR => repeat (first | exact (by repeat (first | (with_reducible exact HR245.out) | (with_reducible refine Kd.C_alloc ?_ _) | (with_reducible refine Kd.C_drewN ?_ _) | (with_reducible refine Kd.C_drew ?_) | exact HR245.out)) | (with_reducible refine Kd.C_alloc ?_ _) | (with_reducible refine Kd.C_drewN ?_ _) | (with_reducible refine Kd.C_drew ?_))); (case aB => exact (by repeat (first | (with_reducible first | exact HB.out | apply below_alloc | apply pw_below_drewN | apply below_drew1) | exact HB.out))); (case aF => exact (fun k_ hk => Kd.fresh' (Kd.R_lt (by (with_reducible repeat (first | apply Kd.R_alloc | apply Kd.R_drewN | apply Kd.R_drew)); exact HO_4.out)) k_ hk)); (case aO => exact (by (with_reducible repeat (first | apply Kd.R_alloc | apply Kd.R_drewN | apply Kd.R_drew)); exact HO241.out)); (case aS => exact (below_size (by repeat (first | (with_reducible first | exact HB.out | apply below_alloc | apply pw_below_drewN | apply below_drew1) | exact HB.out)))); (case aL => have := LMc46.out; omega); intro v247 w51 ho hb hg hat; rw [← Ny246.out] at ho; have n0_ := Aside0.mk (Kd.R_after (ok := (fun _ => True)) (by (with_reducible repeat (first | apply Kd.R_alloc | apply Kd.R_drewN | apply Kd.R_drew)); exact HO_4.out) hg hat); have n1_ := Aside0.mk (hb); have n2_ := Aside0.mk ((show Kd.C k44 w51 Ao18 y231.length y231 from by rw [Ny231.out]; exact Kd.C_take (m := (x7_4 : Int).toNat) ((Kd.R_reads' (Kd.R_after (ok := (fun _ => True)) (by (with_reducible repeat (first | apply Kd.R_alloc | apply Kd.R_drewN | apply Kd.R_drew)); exact HO_4.out) hg hat)).2.2) KL47.out)); have n3_ := Aside0.mk ((show Kd.C k44 w51 A50 y242.length y242 from by rw [Ny242.out, KA50.out]; exact Kd.C_drop (m := (x7_4 : Int).toNat) (c := co18) ((Kd.R_reads' (Kd.R_after (ok := (fun _ => True)) (by (with_reducible repeat (first | apply Kd.R_alloc | apply Kd.R_drewN | apply Kd.R_drew)); exact HO_4.out) hg hat)).2.2) KL50.out ((Kd.R_reads' (Kd.R_after (ok := (fun _ => True)) (by (with_reducible repeat (first | apply Kd.R_alloc | apply Kd.R_drewN | apply Kd.R_drew)); exact HO_4.out) hg hat)).2.1))); have n4_ := Aside0.mk (ho); clear HO_4; clear HB; clear HR234; clear HR245; clear HO241; have HO_4 := n0_; have HB := n1_; have HR234 := n2_; have HR245 := n3_; have HO248 := n4_; clear n0_ n1_ n2_ n3_ n4_; clear ho hb hg hat)))
                       go_roundg k4
                       case measure => have := HK1.out; have := HJ2.out; have := HK3.out; have := HK4.out; omega
                       case rel => exact ⟨(y246), (wrap64 (x5_1 + 1)), (by first | rfl | (simp; done) | (simp [*]; done)), H', ⟨by have := HK1.out; have := HJ2.out; have := HK3.out; have := HK4.out; omega⟩, ⟨by (with_reducible repeat (first | apply Kd.R_alloc | apply Kd.R_drewN | apply Kd.R_drew)); exact Kd.R_mono HO248.out (fun _ hk => trivial)⟩, ⟨by repeat (first | (with_reducible first | exact HB.out | apply below_alloc | apply pw_below_drewN | apply below_drew1) | exact HB.out)⟩⟩
                      ·rw [if_neg c46] at H
                       exact absurd H (by simp)
                     ·rw [if_neg c43] at H
                      exact absurd H (by simp)
                    ·rw [if_neg c42] at H
                     exact absurd H (by simp)
                   ·rw [if_neg c41] at H
                    exact absurd H (by simp)
                  ·rw [if_neg c40] at H
                   exact absurd H (by simp)
                 ·rw [if_neg c39] at H
                  exact absurd H (by simp)
                ·rw [if_neg c38] at H
                 exact absurd H (by simp)
           ·rw [if_neg c16] at H
            exact absurd H (by simp)
          ·rw [if_neg c15] at H
           exact absurd H (by simp)
   ·rw [if_neg c2] at H
    have c2b0 : decide (x5_1 < (l0.length : Int)) = false := decide_eq_false c2
    clear c2
    by_cases c52 : (x4_1.length : Int) > 16
    ·rw [if_pos c52] at H
     have c52b0 : decide (16 < (x4_1.length : Int)) = true := decide_eq_true c52
     have c52b1 : decide (16 < x4_1.length) = true := decide_eq_true (by omega)
     clear c52
     simp only [Option.some.injEq, Prod.mk.injEq] at H
     obtain ⟨rfl, rfl⟩ := H
     obtain ⟨Ao53, co53, eo53⟩ := Kd.R_slice HO_4.out
     subst eo53
     go_wp2
     repeat (go_quiet (fail); try go_wp2)
     go_ret2
     exact ⟨_, by first | rfl | (simp [errW_none, errW_some] <;> rfl) | (simp [*, errW_none, errW_some] <;> rfl), by first | exact Kd.R_nil _ _ _ _ _ | exact Kd.N_nil _ _ _ _ _ | exact Kd.V_nil _ _ _ _ _ | exact Kd.Q_nil _ _ _ _ _ | exact Kd.S_nil _ _ _ _ _, by repeat (first | (with_reducible first | exact HB.out | apply below_alloc | apply pw_below_drewN | apply below_drew1) | exact HB.out)⟩
    ·rw [if_neg c52] at H
     have c52b0 : decide (16 < (x4_1.length : Int)) = false := decide_eq_false c52
     have c52b1 : decide (16 < x4_1.length) = false := decide_eq_false (by omega)
     clear c52
     simp only [Option.some.injEq, Prod.mk.injEq] at H
     obtain ⟨rfl, rfl⟩ := H
     obtain ⟨Ao54, co54, eo54⟩ := Kd.R_slice HO_4.out
     subst eo54
     go_wp2
     repeat (go_quiet (fail); try go_wp2)
     go_ret2
     exact ⟨_, by first | rfl | (simp [errW_none, errW_some] <;> rfl) | (simp [*, errW_none, errW_some] <;> rfl), by (with_reducible repeat (first | apply Kd.R_alloc | apply Kd.R_drewN | apply Kd.R_drew)); exact HO_4.out, by repeat (first | (with_reducible first | exact HB.out | apply below_alloc | apply pw_below_drewN | apply below_drew1) | exact HB.out)⟩

end Go.Proofs.YtfbockgjhbfidaaGreatDoor.Pr
