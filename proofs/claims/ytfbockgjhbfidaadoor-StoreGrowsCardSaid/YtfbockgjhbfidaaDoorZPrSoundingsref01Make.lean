/- Texts of this session, cut down to what one claim needs and joined: PrSoundingsref01Make. -/
import Derived.Test.YtfbockgjhbfidaaDoorZPr0
import Derived.Test.YtfbockgjhbfidaaDoorZGOrd
import Derived.Test.YtfbockgjhbfidaaDoorZGPr
-- Written by a program of this session (wip/hook.py) out of the translation. Not trusted: Lean checks it.
namespace Go.Proofs.YtfbockgjhbfidaaDoor.Pr
open Go.RowKit Go.Proofs.YtfbockgjhbfidaaDoorW.PrintWords Go.Proofs.YtfbockgjhbfidaaDoorW.PrintLast Go.Proofs.YtfbockgjhbfidaaDoorW.PrintMore
attribute [local go_sem] max2_int min2_int max_two min_two max_three min_three max_four min_four   -- for this text's walks alone
attribute [local go_sem] str_gtr
set_option linter.unusedVariables false
set_option linter.unusedSimpArgs false

/-! ### soundingsref01_Make: function 20 -/
mutual
def soundingsref01_Make.l0 : Nat → List (S46) → List (S46) → Int → Option ((List (S46)) × Bool)
  | 0, _, _, _ => none
  | k + 1, x0, x4, x5 => if x5 < (x0.length : Int) then (if 0 ≤ x5 then ((soundingsref01_IsName.f k ((rd_T46 x0 x5).f0)).bind fun t214 => (if t214 = true then ((soundingsref01_IsValue.f k ((rd_T46 x0 x5).f1)).bind fun t216 => (soundingsref01_Make.j1 k x0 x4 x5 (!t216))) else (soundingsref01_Make.j1 k x0 x4 x5 true))) else (none)) else (if (x4.length : Int) > 16 then (some (([] : List (S46)), false)) else (some (x4, true)))
def soundingsref01_Make.j1 : Nat → List (S46) → List (S46) → Int → Bool → Option ((List (S46)) × Bool)
  | 0, _, _, _, _ => none
  | k + 1, x0, x4, x5, x30 => if x30 = true then (some (([] : List (S46)), false)) else (soundingsref01_Make.l1 k x0 x4 x5 0)
def soundingsref01_Make.l1 : Nat → List (S46) → List (S46) → Int → Int → Option ((List (S46)) × Bool)
  | 0, _, _, _, _ => none
  | k + 1, x0, x4, x5, x6 => if x6 < x5 then (if 0 ≤ x6 then (if x6 < (x0.length : Int) then (if 0 ≤ x5 then (if x5 < (x0.length : Int) then (if ((rd_T46 x0 x6).f0).toList = ((rd_T46 x0 x5).f0).toList then (some (([] : List (S46)), false)) else (soundingsref01_Make.l1 k x0 x4 x5 (wrap64 (x6 + 1)))) else (none)) else (none)) else (none)) else (none)) else (if 0 ≤ x5 then (if x5 < (x0.length : Int) then (if ((rd_T46 x0 x5).f1).toList = ([] : List UInt8) then (soundingsref01_Make.l0 k x0 x4 (wrap64 (x5 + 1))) else (soundingsref01_Make.l2 k x0 x4 x5 (x4.length : Int))) else (none)) else (none))
def soundingsref01_Make.l2 : Nat → List (S46) → List (S46) → Int → Int → Option ((List (S46)) × Bool)
  | 0, _, _, _, _ => none
  | k + 1, x0, x4, x5, x7 => if x7 > 0 then (if 0 ≤ (wrap64 (x7 - 1)) then (if (wrap64 (x7 - 1)) < (x4.length : Int) then (if 0 ≤ x5 then (if x5 < (x0.length : Int) then (if (Op.bytesLess (((rd_T46 x0 x5).f0).toList) (((rd_T46 x4 (wrap64 (x7 - 1))).f0).toList)) = true then (soundingsref01_Make.l2 k x0 x4 x5 (wrap64 (x7 - 1))) else (if 0 ≤ x7 then (if x7 ≤ (x4.length : Int) then ((some (x4.take (x7 : Int).toNat : List (S46))).bind fun y222 => (if ([] : List (S46)).length + y222.length < 4398046511104 then ((some (([] : List (S46)) ++ y222 : List (S46))).bind fun y226 => (if y226.length < 4398046511104 then ((some (y226 ++ [(⟨(rd_T46 x0 x5).f0, (rd_T46 x0 x5).f1⟩ : S46)] : List (S46))).bind fun y230 => ((some (x4.drop (x7 : Int).toNat : List (S46))).bind fun y233 => (if y230.length + y233.length < 4398046511104 then (soundingsref01_Make.l0 k x0 (y230 ++ y233) (wrap64 (x5 + 1))) else (none)))) else (none))) else (none))) else (none)) else (none))) else (none)) else (none)) else (none)) else (none)) else (if 0 ≤ x7 then (if x7 ≤ (x4.length : Int) then ((some (x4.take (x7 : Int).toNat : List (S46))).bind fun y240 => (if ([] : List (S46)).length + y240.length < 4398046511104 then ((some (([] : List (S46)) ++ y240 : List (S46))).bind fun y244 => (if 0 ≤ x5 then (if x5 < (x0.length : Int) then (if y244.length < 4398046511104 then ((some (y244 ++ [(⟨(rd_T46 x0 x5).f0, (rd_T46 x0 x5).f1⟩ : S46)] : List (S46))).bind fun y248 => ((some (x4.drop (x7 : Int).toNat : List (S46))).bind fun y251 => (if y248.length + y251.length < 4398046511104 then (soundingsref01_Make.l0 k x0 (y248 ++ y251) (wrap64 (x5 + 1))) else (none)))) else (none)) else (none)) else (none))) else (none))) else (none)) else (none))
end
def soundingsref01_Make.f (k : Nat) (l0 : List (S46)) : Option ((List (S46)) × Bool) := soundingsref01_Make.l0 k l0 ([] : List (S46)) 0
theorem soundingsref01_Make.mono_l : ∀ k, (∀ y0 y1 y2, LeO (soundingsref01_Make.l0 k y0 y1 y2) (soundingsref01_Make.l0 (k + 1) y0 y1 y2)) ∧ (∀ y0 y1 y2 y3, LeO (soundingsref01_Make.j1 k y0 y1 y2 y3) (soundingsref01_Make.j1 (k + 1) y0 y1 y2 y3)) ∧ (∀ y0 y1 y2 y3, LeO (soundingsref01_Make.l1 k y0 y1 y2 y3) (soundingsref01_Make.l1 (k + 1) y0 y1 y2 y3)) ∧ (∀ y0 y1 y2 y3, LeO (soundingsref01_Make.l2 k y0 y1 y2 y3) (soundingsref01_Make.l2 (k + 1) y0 y1 y2 y3))
  | 0 => ⟨fun _ _ _ r h => by simp [soundingsref01_Make.l0] at h, fun _ _ _ _ r h => by simp [soundingsref01_Make.j1] at h, fun _ _ _ _ r h => by simp [soundingsref01_Make.l1] at h, fun _ _ _ _ r h => by simp [soundingsref01_Make.l2] at h⟩
  | k + 1 => by
    obtain ⟨ih0, ih1, ih2, ih3⟩ := soundingsref01_Make.mono_l k
    refine ⟨?_, ?_, ?_, ?_⟩
    · intro y0 y1 y2
      unfold soundingsref01_Make.l0
      repeat' first
      | (with_reducible exact ih0 _ _ _)
      | (with_reducible exact ih1 _ _ _ _)
      | (with_reducible exact ih2 _ _ _ _)
      | (with_reducible exact ih3 _ _ _ _)
      | (with_reducible exact soundingsref01_IsName.mono _ _)
      | (with_reducible exact soundingsref01_IsValue.mono _ _)
      | (with_reducible exact LeO.refl _)
      | (with_reducible exact LeO.none _)
      | (with_reducible refine LeO.ite ?_ ?_)
      | (with_reducible refine LeO.bind ?_ (fun _ => ?_))
      | exact ih0 _ _ _
      | exact ih1 _ _ _ _
      | exact ih2 _ _ _ _
      | exact ih3 _ _ _ _
      | exact soundingsref01_IsName.mono _ _
      | exact soundingsref01_IsValue.mono _ _
      | exact LeO.none _
      | refine LeO.ite ?_ ?_
      | refine LeO.bind ?_ (fun _ => ?_)
    · intro y0 y1 y2 y3
      unfold soundingsref01_Make.j1
      repeat' first
      | (with_reducible exact ih0 _ _ _)
      | (with_reducible exact ih1 _ _ _ _)
      | (with_reducible exact ih2 _ _ _ _)
      | (with_reducible exact ih3 _ _ _ _)
      | (with_reducible exact soundingsref01_IsName.mono _ _)
      | (with_reducible exact soundingsref01_IsValue.mono _ _)
      | (with_reducible exact LeO.refl _)
      | (with_reducible exact LeO.none _)
      | (with_reducible refine LeO.ite ?_ ?_)
      | (with_reducible refine LeO.bind ?_ (fun _ => ?_))
      | exact ih0 _ _ _
      | exact ih1 _ _ _ _
      | exact ih2 _ _ _ _
      | exact ih3 _ _ _ _
      | exact soundingsref01_IsName.mono _ _
      | exact soundingsref01_IsValue.mono _ _
      | exact LeO.none _
      | refine LeO.ite ?_ ?_
      | refine LeO.bind ?_ (fun _ => ?_)
    · intro y0 y1 y2 y3
      unfold soundingsref01_Make.l1
      repeat' first
      | (with_reducible exact ih0 _ _ _)
      | (with_reducible exact ih1 _ _ _ _)
      | (with_reducible exact ih2 _ _ _ _)
      | (with_reducible exact ih3 _ _ _ _)
      | (with_reducible exact soundingsref01_IsName.mono _ _)
      | (with_reducible exact soundingsref01_IsValue.mono _ _)
      | (with_reducible exact LeO.refl _)
      | (with_reducible exact LeO.none _)
      | (with_reducible refine LeO.ite ?_ ?_)
      | (with_reducible refine LeO.bind ?_ (fun _ => ?_))
      | exact ih0 _ _ _
      | exact ih1 _ _ _ _
      | exact ih2 _ _ _ _
      | exact ih3 _ _ _ _
      | exact soundingsref01_IsName.mono _ _
      | exact soundingsref01_IsValue.mono _ _
      | exact LeO.none _
      | refine LeO.ite ?_ ?_
      | refine LeO.bind ?_ (fun _ => ?_)
    · intro y0 y1 y2 y3
      unfold soundingsref01_Make.l2
      repeat' first
      | (with_reducible exact ih0 _ _ _)
      | (with_reducible exact ih1 _ _ _ _)
      | (with_reducible exact ih2 _ _ _ _)
      | (with_reducible exact ih3 _ _ _ _)
      | (with_reducible exact soundingsref01_IsName.mono _ _)
      | (with_reducible exact soundingsref01_IsValue.mono _ _)
      | (with_reducible exact LeO.refl _)
      | (with_reducible exact LeO.none _)
      | (with_reducible refine LeO.ite ?_ ?_)
      | (with_reducible refine LeO.bind ?_ (fun _ => ?_))
      | exact ih0 _ _ _
      | exact ih1 _ _ _ _
      | exact ih2 _ _ _ _
      | exact ih3 _ _ _ _
      | exact soundingsref01_IsName.mono _ _
      | exact soundingsref01_IsValue.mono _ _
      | exact LeO.none _
      | refine LeO.ite ?_ ?_
      | refine LeO.bind ?_ (fun _ => ?_)
theorem soundingsref01_Make.mono : ∀ a0 k, LeO (soundingsref01_Make.f k a0) (soundingsref01_Make.f (k + 1) a0) := by
  intro a0 k
  obtain ⟨ih0, ih1, ih2, ih3⟩ := soundingsref01_Make.mono_l k
  unfold soundingsref01_Make.f
  repeat' first
      | (with_reducible exact ih0 _ _ _)
      | (with_reducible exact ih1 _ _ _ _)
      | (with_reducible exact ih2 _ _ _ _)
      | (with_reducible exact ih3 _ _ _ _)
      | (with_reducible exact soundingsref01_IsName.mono _ _)
      | (with_reducible exact soundingsref01_IsValue.mono _ _)
      | (with_reducible exact LeO.refl _)
      | (with_reducible exact LeO.none _)
      | (with_reducible refine LeO.ite ?_ ?_)
      | (with_reducible refine LeO.bind ?_ (fun _ => ?_))
      | exact ih0 _ _ _
      | exact ih1 _ _ _ _
      | exact ih2 _ _ _ _
      | exact ih3 _ _ _ _
      | exact soundingsref01_IsName.mono _ _
      | exact soundingsref01_IsValue.mono _ _
      | exact LeO.none _
      | refine LeO.ite ?_ ?_
      | refine LeO.bind ?_ (fun _ => ?_)
set_option maxHeartbeats 8000000 in
set_option maxRecDepth 100000 in
theorem soundingsref01_Make.calls (k : Nat) (A0 : Option Addr) (c0 : Nat) (l0 : List (S46)) (r1 : List (S46)) (r2 : Bool) (w : World) (hr0 : Kd.C k46 w A0 l0.length l0) (hc0 : l0.length ≤ c0) (h : soundingsref01_Make.f k l0 = some (r1, r2)) :
    Calls Tryd.prog 20 #[.slice A0 l0.length c0] w fun e w' => ∃ v0_ : Value, e = .returned (.tuple #[v0_, .bool r2]) ∧ Kd.R k46 46 w' w.heap.size (fun _ => True) v0_ r1 ∧ Below w.heap.size w w' := by
  have hu46 := Tryd.underlying46
  have HR0 := Aside0.mk hr0
  have HC0 := Aside0.mk hc0
  clear hr0 hc0
  have HB := Aside0.mk (Below.refl w.heap.size w)
  have H : (soundingsref01_Make.l0 k l0 ([] : List (S46)) 0) = some (r1, r2) := h
  clear h
  have H' := Aside0.mk H
  clear H
  go_enter Tryd.func20, Tryd.ntmps20
  go_wp2
  repeat (go_quiet (fail); try go_wp2)
  go_loopg [4, 5] k (fun kq v4 v5 w' => ∃ (x4_1 : List (S46)) (x5_1 : Int), v5 = .int .i64 x5_1 ∧ Aside0 (soundingsref01_Make.l0 kq l0 x4_1 x5_1 = some (r1, r2)) ∧ Aside0 (kq ≤ k) ∧ Aside0 (Kd.R k46 46 w' w.heap.size (fun _ => True) v4 x4_1) ∧ Aside0 (Below w.heap.size w w'))
  case atStart => exact ⟨(([] : List (S46))), (0), (by first | rfl | (simp; done) | (simp [*]; done)), H', ⟨Nat.le_refl _⟩, ⟨by first | exact Kd.R_nil _ _ _ _ _ | exact Kd.N_nil _ _ _ _ _ | exact Kd.V_nil _ _ _ _ _ | exact Kd.Q_nil _ _ _ _ _ | exact Kd.S_nil _ _ _ _ _⟩, ⟨by repeat (first | (with_reducible first | exact HB.out | apply below_alloc | apply pw_below_drewN | apply below_drew1) | exact HB.out)⟩⟩
  case round =>
    clear H'
    obtain ⟨x4_1, x5_1, rfl, HA, HK1, HO_4, HB⟩ := hrel
    cases gk with
    | zero => exact absurd HA.out (by simp [soundingsref01_Make.l0])
    | succ k1 =>
      have H := HA.out
      clear HA
      simp only [soundingsref01_Make.l0] at H
      by_cases c2 : x5_1 < (l0.length : Int)
      · rw [if_pos c2] at H
        have c2b0 : decide (x5_1 < (l0.length : Int)) = true := decide_eq_true c2
        clear c2
        have HC3 := Aside0.mk H
        clear H
        go_upto_region 5 with (fail)
        repeat (go_quiet (fail); go_upto_region 5 with (fail))
        go_cut [30] (fun v30 wc => ∃ (kq : Nat) (x30_2 : Bool), v30 = .bool x30_2 ∧ Aside0 (soundingsref01_Make.j1 kq l0 x4_1 x5_1 x30_2 = some (r1, r2)) ∧ Aside0 (kq ≤ k1) ∧ Aside0 (Kd.R k46 46 wc w.heap.size (fun _ => True) u4 x4_1) ∧ Aside0 (Below w.heap.size w wc))
        case first =>
          have H := HC3.out
          clear HC3
          by_cases c4 : 0 ≤ x5_1
          · rw [if_pos c4] at H
            have c4b0 : decide (0 ≤ x5_1) = true := decide_eq_true c4
            clear c4
            (first | rw [c4b0] | (simp only [i64_w, i32_w]; rw [c4b0]) | skip)
            replace H := Option.bind_eq_some_iff.mp H
            obtain ⟨t214, A50, H⟩ := H
            replace H : (if t214 = true then ((soundingsref01_IsValue.f k1 ((rd_T46 l0 x5_1).f1)).bind fun t216 => (soundingsref01_Make.j1 k1 l0 x4_1 x5_1 (!t216))) else (soundingsref01_Make.j1 k1 l0 x4_1 x5_1 true)) = some (r1, r2) := H
            have A5 := Aside0.mk A50
            clear A50
            by_cases c6 : t214 = true
            · subst c6
              have H1 : ((soundingsref01_IsValue.f k1 ((rd_T46 l0 x5_1).f1)).bind fun t216 => (soundingsref01_Make.j1 k1 l0 x4_1 x5_1 (!t216))) = some (r1, r2) := by rw [if_pos rfl] at H; exact H
              clear H
              have H := H1
              clear H1
              replace H := Option.bind_eq_some_iff.mp H
              obtain ⟨t216, A70, H⟩ := H
              replace H : (soundingsref01_Make.j1 k1 l0 x4_1 x5_1 (!t216)) = some (r1, r2) := H
              have A7 := Aside0.mk A70
              clear A70
              have H' := Aside0.mk H
              clear H
              have p213 : 0 ≤ (x5_1 : Int) := of_decide_eq_true (by first | (with_reducible assumption) | assumption)
              have q213 : x5_1 < (l0.length : Int) := of_decide_eq_true (by first | (with_reducible assumption) | assumption)
              obtain ⟨ad213, e213, hx213_0, hx213_1⟩ := at_T46 HR0.out x5_1 p213 q213
              cases e213
              replace hx213_0 := (HB.out.cell (World.block_lt_of_cell? w _ hx213_0)).trans hx213_0
              replace hx213_1 := (HB.out.cell (World.block_lt_of_cell? w _ hx213_1)).trans hx213_1
              replace p213 := eq_true p213
              replace q213 := eq_true q213
              go_wp2_with (first | (go_at_call 24; (with_reducible refine (soundingsref01_IsName.calls k1 ((rd_T46 l0 x5_1).f0) true _ A5.out).mono ?_); rintro e w' ⟨rfl, ⟨nd, rfl⟩⟩; (try first | exact ⟨rfl, _, World.drewN_drewN _ _ _⟩ | exact ⟨rfl, _, Eq.trans (World.drewN_drewN _ _ _) (congrArg (World.drewN _) (Nat.add_assoc _ _ _))⟩); have p215 : 0 ≤ (x5_1 : Int) := of_decide_eq_true (by first | (with_reducible assumption) | assumption); have q215 : x5_1 < (l0.length : Int) := of_decide_eq_true (by first | (with_reducible assumption) | assumption); obtain ⟨ad215, e215, hx215_0, hx215_1⟩ := at_T46 HR0.out x5_1 p215 q215; obtain rfl : ad213 = ad215 := (by injection e215); replace hx215_0 := (HB.out.cell (World.block_lt_of_cell? w _ hx215_0)).trans hx215_0; replace hx215_1 := (HB.out.cell (World.block_lt_of_cell? w _ hx215_1)).trans hx215_1; replace p215 := eq_true p215; replace q215 := eq_true q215) | (go_at_call 57; (with_reducible refine (soundingsref01_IsValue.calls k1 ((rd_T46 l0 x5_1).f1) t216 _ A7.out).mono ?_); rintro e w' ⟨rfl, ⟨nd, rfl⟩⟩; (try first | exact ⟨rfl, _, World.drewN_drewN _ _ _⟩ | exact ⟨rfl, _, Eq.trans (World.drewN_drewN _ _ _) (congrArg (World.drewN _) (Nat.add_assoc _ _ _))⟩)))
              repeat (go_quiet (first | (go_at_call 24; (with_reducible refine (soundingsref01_IsName.calls k1 ((rd_T46 l0 x5_1).f0) true _ A5.out).mono ?_); rintro e w' ⟨rfl, ⟨nd, rfl⟩⟩; (try first | exact ⟨rfl, _, World.drewN_drewN _ _ _⟩ | exact ⟨rfl, _, Eq.trans (World.drewN_drewN _ _ _) (congrArg (World.drewN _) (Nat.add_assoc _ _ _))⟩); have p215 : 0 ≤ (x5_1 : Int) := of_decide_eq_true (by first | (with_reducible assumption) | assumption); have q215 : x5_1 < (l0.length : Int) := of_decide_eq_true (by first | (with_reducible assumption) | assumption); obtain ⟨ad215, e215, hx215_0, hx215_1⟩ := at_T46 HR0.out x5_1 p215 q215; obtain rfl : ad213 = ad215 := (by injection e215); replace hx215_0 := (HB.out.cell (World.block_lt_of_cell? w _ hx215_0)).trans hx215_0; replace hx215_1 := (HB.out.cell (World.block_lt_of_cell? w _ hx215_1)).trans hx215_1; replace p215 := eq_true p215; replace q215 := eq_true q215) | (go_at_call 57; (with_reducible refine (soundingsref01_IsValue.calls k1 ((rd_T46 l0 x5_1).f1) t216 _ A7.out).mono ?_); rintro e w' ⟨rfl, ⟨nd, rfl⟩⟩; (try first | exact ⟨rfl, _, World.drewN_drewN _ _ _⟩ | exact ⟨rfl, _, Eq.trans (World.drewN_drewN _ _ _) (congrArg (World.drewN _) (Nat.add_assoc _ _ _))⟩))); try go_wp2_with (first | (go_at_call 24; (with_reducible refine (soundingsref01_IsName.calls k1 ((rd_T46 l0 x5_1).f0) true _ A5.out).mono ?_); rintro e w' ⟨rfl, ⟨nd, rfl⟩⟩; (try first | exact ⟨rfl, _, World.drewN_drewN _ _ _⟩ | exact ⟨rfl, _, Eq.trans (World.drewN_drewN _ _ _) (congrArg (World.drewN _) (Nat.add_assoc _ _ _))⟩); have p215 : 0 ≤ (x5_1 : Int) := of_decide_eq_true (by first | (with_reducible assumption) | assumption); have q215 : x5_1 < (l0.length : Int) := of_decide_eq_true (by first | (with_reducible assumption) | assumption); obtain ⟨ad215, e215, hx215_0, hx215_1⟩ := at_T46 HR0.out x5_1 p215 q215; obtain rfl : ad213 = ad215 := (by injection e215); replace hx215_0 := (HB.out.cell (World.block_lt_of_cell? w _ hx215_0)).trans hx215_0; replace hx215_1 := (HB.out.cell (World.block_lt_of_cell? w _ hx215_1)).trans hx215_1; replace p215 := eq_true p215; replace q215 := eq_true q215) | (go_at_call 57; (with_reducible refine (soundingsref01_IsValue.calls k1 ((rd_T46 l0 x5_1).f1) t216 _ A7.out).mono ?_); rintro e w' ⟨rfl, ⟨nd, rfl⟩⟩; (try first | exact ⟨rfl, _, World.drewN_drewN _ _ _⟩ | exact ⟨rfl, _, Eq.trans (World.drewN_drewN _ _ _) (congrArg (World.drewN _) (Nat.add_assoc _ _ _))⟩))))
              go_meet
              case rel => exact ⟨_, (!t216), (by first | rfl | (simp; done) | (simp [*]; done)), H', ⟨by have := HK1.out; first | omega | exact Nat.le_refl _⟩, ⟨by (with_reducible repeat (first | apply Kd.R_alloc | apply Kd.R_drewN | apply Kd.R_drew)); exact HO_4.out⟩, ⟨by repeat (first | (with_reducible first | exact HB.out | apply below_alloc | apply pw_below_drewN | apply below_drew1) | exact HB.out)⟩⟩
            · replace c6 := Bool.eq_false_iff.mpr c6
              subst c6
              have H1 : (soundingsref01_Make.j1 k1 l0 x4_1 x5_1 true) = some (r1, r2) := by rw [if_neg (show ¬ (false = true) by decide)] at H; exact H
              clear H
              have H := H1
              clear H1
              have H' := Aside0.mk H
              clear H
              have p213 : 0 ≤ (x5_1 : Int) := of_decide_eq_true (by first | (with_reducible assumption) | assumption)
              have q213 : x5_1 < (l0.length : Int) := of_decide_eq_true (by first | (with_reducible assumption) | assumption)
              obtain ⟨ad213, e213, hx213_0, hx213_1⟩ := at_T46 HR0.out x5_1 p213 q213
              cases e213
              replace hx213_0 := (HB.out.cell (World.block_lt_of_cell? w _ hx213_0)).trans hx213_0
              replace hx213_1 := (HB.out.cell (World.block_lt_of_cell? w _ hx213_1)).trans hx213_1
              replace p213 := eq_true p213
              replace q213 := eq_true q213
              go_wp2_with (first | (go_at_call 24; (with_reducible refine (soundingsref01_IsName.calls k1 ((rd_T46 l0 x5_1).f0) false _ A5.out).mono ?_); rintro e w' ⟨rfl, ⟨nd, rfl⟩⟩; (try first | exact ⟨rfl, _, World.drewN_drewN _ _ _⟩ | exact ⟨rfl, _, Eq.trans (World.drewN_drewN _ _ _) (congrArg (World.drewN _) (Nat.add_assoc _ _ _))⟩)))
              repeat (go_quiet (first | (go_at_call 24; (with_reducible refine (soundingsref01_IsName.calls k1 ((rd_T46 l0 x5_1).f0) false _ A5.out).mono ?_); rintro e w' ⟨rfl, ⟨nd, rfl⟩⟩; (try first | exact ⟨rfl, _, World.drewN_drewN _ _ _⟩ | exact ⟨rfl, _, Eq.trans (World.drewN_drewN _ _ _) (congrArg (World.drewN _) (Nat.add_assoc _ _ _))⟩))); try go_wp2_with (first | (go_at_call 24; (with_reducible refine (soundingsref01_IsName.calls k1 ((rd_T46 l0 x5_1).f0) false _ A5.out).mono ?_); rintro e w' ⟨rfl, ⟨nd, rfl⟩⟩; (try first | exact ⟨rfl, _, World.drewN_drewN _ _ _⟩ | exact ⟨rfl, _, Eq.trans (World.drewN_drewN _ _ _) (congrArg (World.drewN _) (Nat.add_assoc _ _ _))⟩))))
              go_meet
              case rel => exact ⟨_, (true), (by first | rfl | (simp; done) | (simp [*]; done)), H', ⟨by have := HK1.out; first | omega | exact Nat.le_refl _⟩, ⟨by (with_reducible repeat (first | apply Kd.R_alloc | apply Kd.R_drewN | apply Kd.R_drew)); exact HO_4.out⟩, ⟨by repeat (first | (with_reducible first | exact HB.out | apply below_alloc | apply pw_below_drewN | apply below_drew1) | exact HB.out)⟩⟩
          · rw [if_neg c4] at H
            exact absurd H (by simp)
        case rest =>
          clear HC3
          try clear c2
          try clear c2b0
          try clear p2
          try clear q2
          try clear hx2
          try clear c4
          try clear c4b0
          try clear c6
          try clear hx213_0
          try clear hx213_1
          try clear hx215_0
          try clear hx215_1
          try clear p213
          try clear p215
          try clear q213
          try clear q215
          obtain ⟨kq, x30_2, rfl, HA, HJ2, HO_4, HB⟩ := hcut
          cases kq with
          | zero => exact absurd HA.out (by simp [soundingsref01_Make.j1])
          | succ kj2 =>
            have H := HA.out
            clear HA
            simp only [soundingsref01_Make.j1] at H
            by_cases c8 : x30_2 = true
            · subst c8
              have H1 : (some (([] : List (S46)), false)) = some (r1, r2) := by rw [if_pos rfl] at H; exact H
              clear H
              have H := H1
              clear H1
              simp only [Option.some.injEq, Prod.mk.injEq] at H
              obtain ⟨rfl, rfl⟩ := H
              go_wp2
              repeat (go_quiet (fail); try go_wp2)
              go_ret2
              exact ⟨_, by first | rfl | (simp [errW_none, errW_some] <;> rfl) | (simp [*, errW_none, errW_some] <;> rfl), by first | exact Kd.R_nil _ _ _ _ _ | exact Kd.N_nil _ _ _ _ _ | exact Kd.V_nil _ _ _ _ _ | exact Kd.Q_nil _ _ _ _ _ | exact Kd.S_nil _ _ _ _ _, by repeat (first | (with_reducible first | exact HB.out | apply below_alloc | apply pw_below_drewN | apply below_drew1) | exact HB.out)⟩
            · replace c8 := Bool.eq_false_iff.mpr c8
              subst c8
              have H1 : (soundingsref01_Make.l1 kj2 l0 x4_1 x5_1 0) = some (r1, r2) := by rw [if_neg (show ¬ (false = true) by decide)] at H; exact H
              clear H
              have H := H1
              clear H1
              have H' := Aside0.mk H
              clear H
              go_wp2
              repeat (go_quiet (fail); try go_wp2)
              go_loopg [6] kj2 (fun kq v6 w' => ∃ (x6_3 : Int), v6 = .int .i64 x6_3 ∧ Aside0 (soundingsref01_Make.l1 kq l0 x4_1 x5_1 x6_3 = some (r1, r2)) ∧ Aside0 (kq ≤ kj2) ∧ Aside0 (Kd.R k46 46 w' w.heap.size (fun _ => True) u4 x4_1) ∧ Aside0 (Below w.heap.size w w'))
              case atStart => exact ⟨(0), (by first | rfl | (simp; done) | (simp [*]; done)), H', ⟨Nat.le_refl _⟩, ⟨by (with_reducible repeat (first | apply Kd.R_alloc | apply Kd.R_drewN | apply Kd.R_drew)); exact HO_4.out⟩, ⟨by repeat (first | (with_reducible first | exact HB.out | apply below_alloc | apply pw_below_drewN | apply below_drew1) | exact HB.out)⟩⟩
              case round =>
                clear H'
                try clear c2
                try clear c2b0
                try clear p2
                try clear q2
                try clear hx2
                try clear c4
                try clear c4b0
                try clear c6
                try clear c8
                try clear hx213_0
                try clear hx213_1
                try clear hx215_0
                try clear hx215_1
                try clear p2
                try clear p213
                try clear p215
                try clear q2
                try clear q213
                try clear q215
                obtain ⟨x6_3, rfl, HA, HK3, HO_4, HB⟩ := hrel
                cases gk with
                | zero => exact absurd HA.out (by simp [soundingsref01_Make.l1])
                | succ k3 =>
                  have H := HA.out
                  clear HA
                  simp only [soundingsref01_Make.l1] at H
                  by_cases c9 : x6_3 < x5_1
                  · rw [if_pos c9] at H
                    have c9b0 : decide (x6_3 < x5_1) = true := decide_eq_true c9
                    clear c9
                    by_cases c10 : 0 ≤ x6_3
                    · rw [if_pos c10] at H
                      have c10b0 : decide (0 ≤ x6_3) = true := decide_eq_true c10
                      clear c10
                      by_cases c11 : x6_3 < (l0.length : Int)
                      · rw [if_pos c11] at H
                        have c11b0 : decide (x6_3 < (l0.length : Int)) = true := decide_eq_true c11
                        clear c11
                        by_cases c12 : 0 ≤ x5_1
                        · rw [if_pos c12] at H
                          have c12b0 : decide (0 ≤ x5_1) = true := decide_eq_true c12
                          clear c12
                          by_cases c13 : x5_1 < (l0.length : Int)
                          · rw [if_pos c13] at H
                            have c13b0 : decide (x5_1 < (l0.length : Int)) = true := decide_eq_true c13
                            clear c13
                            by_cases c14 : ((rd_T46 l0 x6_3).f0).toList = ((rd_T46 l0 x5_1).f0).toList
                            · rw [if_pos c14] at H
                              have c14b0 : (((rd_T46 l0 x6_3).f0).toList == ((rd_T46 l0 x5_1).f0).toList) = true := beq_iff_eq.mpr c14
                              have c14b1 : (((rd_T46 l0 x6_3).f0).toList != ((rd_T46 l0 x5_1).f0).toList) = false := bne_eq_false_iff_eq.mpr c14
                              clear c14
                              simp only [Option.some.injEq, Prod.mk.injEq] at H
                              obtain ⟨rfl, rfl⟩ := H
                              have p217 : 0 ≤ (x6_3 : Int) := of_decide_eq_true (by first | (with_reducible assumption) | assumption)
                              have q217 : x6_3 < (l0.length : Int) := of_decide_eq_true (by first | (with_reducible assumption) | assumption)
                              obtain ⟨ad217, e217, hx217_0, hx217_1⟩ := at_T46 HR0.out x6_3 p217 q217
                              cases e217
                              replace hx217_0 := (HB.out.cell (World.block_lt_of_cell? w _ hx217_0)).trans hx217_0
                              replace hx217_1 := (HB.out.cell (World.block_lt_of_cell? w _ hx217_1)).trans hx217_1
                              replace p217 := eq_true p217
                              replace q217 := eq_true q217
                              have p218 : 0 ≤ (x5_1 : Int) := of_decide_eq_true (by first | (with_reducible assumption) | assumption)
                              have q218 : x5_1 < (l0.length : Int) := of_decide_eq_true (by first | (with_reducible assumption) | assumption)
                              obtain ⟨ad218, e218, hx218_0, hx218_1⟩ := at_T46 HR0.out x5_1 p218 q218
                              obtain rfl : ad217 = ad218 := (by injection e218)
                              replace hx218_0 := (HB.out.cell (World.block_lt_of_cell? w _ hx218_0)).trans hx218_0
                              replace hx218_1 := (HB.out.cell (World.block_lt_of_cell? w _ hx218_1)).trans hx218_1
                              replace p218 := eq_true p218
                              replace q218 := eq_true q218
                              go_wp2
                              repeat (go_quiet (fail); try go_wp2)
                              go_ret2
                              exact ⟨_, by first | rfl | (simp [errW_none, errW_some] <;> rfl) | (simp [*, errW_none, errW_some] <;> rfl), by first | exact Kd.R_nil _ _ _ _ _ | exact Kd.N_nil _ _ _ _ _ | exact Kd.V_nil _ _ _ _ _ | exact Kd.Q_nil _ _ _ _ _ | exact Kd.S_nil _ _ _ _ _, by repeat (first | (with_reducible first | exact HB.out | apply below_alloc | apply pw_below_drewN | apply below_drew1) | exact HB.out)⟩
                            · rw [if_neg c14] at H
                              have c14b0 : (((rd_T46 l0 x6_3).f0).toList == ((rd_T46 l0 x5_1).f0).toList) = false := beq_eq_false_iff_ne.mpr c14
                              have c14b1 : (((rd_T46 l0 x6_3).f0).toList != ((rd_T46 l0 x5_1).f0).toList) = true := bne_iff_ne.mpr c14
                              have H' := Aside0.mk H
                              clear H
                              have p217 : 0 ≤ (x6_3 : Int) := of_decide_eq_true (by first | (with_reducible assumption) | assumption)
                              have q217 : x6_3 < (l0.length : Int) := of_decide_eq_true (by first | (with_reducible assumption) | assumption)
                              obtain ⟨ad217, e217, hx217_0, hx217_1⟩ := at_T46 HR0.out x6_3 p217 q217
                              cases e217
                              replace hx217_0 := (HB.out.cell (World.block_lt_of_cell? w _ hx217_0)).trans hx217_0
                              replace hx217_1 := (HB.out.cell (World.block_lt_of_cell? w _ hx217_1)).trans hx217_1
                              replace p217 := eq_true p217
                              replace q217 := eq_true q217
                              have p218 : 0 ≤ (x5_1 : Int) := of_decide_eq_true (by first | (with_reducible assumption) | assumption)
                              have q218 : x5_1 < (l0.length : Int) := of_decide_eq_true (by first | (with_reducible assumption) | assumption)
                              obtain ⟨ad218, e218, hx218_0, hx218_1⟩ := at_T46 HR0.out x5_1 p218 q218
                              obtain rfl : ad217 = ad218 := (by injection e218)
                              replace hx218_0 := (HB.out.cell (World.block_lt_of_cell? w _ hx218_0)).trans hx218_0
                              replace hx218_1 := (HB.out.cell (World.block_lt_of_cell? w _ hx218_1)).trans hx218_1
                              replace p218 := eq_true p218
                              replace q218 := eq_true q218
                              go_wp2
                              repeat (go_quiet (fail); try go_wp2)
                              go_roundg k3
                              case measure => have := HK1.out; have := HJ2.out; have := HK3.out; omega
                              case rel => exact ⟨(wrap64 (x6_3 + 1)), (by first | rfl | (simp; done) | (simp [*]; done)), H', ⟨by have := HK1.out; have := HJ2.out; have := HK3.out; omega⟩, ⟨by (with_reducible repeat (first | apply Kd.R_alloc | apply Kd.R_drewN | apply Kd.R_drew)); exact HO_4.out⟩, ⟨by repeat (first | (with_reducible first | exact HB.out | apply below_alloc | apply pw_below_drewN | apply below_drew1) | exact HB.out)⟩⟩
                          · rw [if_neg c13] at H
                            exact absurd H (by simp)
                        · rw [if_neg c12] at H
                          exact absurd H (by simp)
                      · rw [if_neg c11] at H
                        exact absurd H (by simp)
                    · rw [if_neg c10] at H
                      exact absurd H (by simp)
                  · rw [if_neg c9] at H
                    have c9b0 : decide (x6_3 < x5_1) = false := decide_eq_false c9
                    clear c9
                    by_cases c15 : 0 ≤ x5_1
                    · rw [if_pos c15] at H
                      have c15b0 : decide (0 ≤ x5_1) = true := decide_eq_true c15
                      clear c15
                      by_cases c16 : x5_1 < (l0.length : Int)
                      · rw [if_pos c16] at H
                        have c16b0 : decide (x5_1 < (l0.length : Int)) = true := decide_eq_true c16
                        clear c16
                        by_cases c17 : ((rd_T46 l0 x5_1).f1).toList = ([] : List UInt8)
                        · rw [if_pos c17] at H
                          have c17b0 : (((rd_T46 l0 x5_1).f1).toList == ([] : List UInt8)) = true := beq_iff_eq.mpr c17
                          have c17b1 : (((rd_T46 l0 x5_1).f1).toList != ([] : List UInt8)) = false := bne_eq_false_iff_eq.mpr c17
                          clear c17
                          have H' := Aside0.mk H
                          clear H
                          have p219 : 0 ≤ (x5_1 : Int) := of_decide_eq_true (by first | (with_reducible assumption) | assumption)
                          have q219 : x5_1 < (l0.length : Int) := of_decide_eq_true (by first | (with_reducible assumption) | assumption)
                          obtain ⟨ad219, e219, hx219_0, hx219_1⟩ := at_T46 HR0.out x5_1 p219 q219
                          cases e219
                          replace hx219_0 := (HB.out.cell (World.block_lt_of_cell? w _ hx219_0)).trans hx219_0
                          replace hx219_1 := (HB.out.cell (World.block_lt_of_cell? w _ hx219_1)).trans hx219_1
                          replace p219 := eq_true p219
                          replace q219 := eq_true q219
                          go_wp2
                          repeat (go_quiet (fail); try go_wp2)
                          go_roundg k3
                          case measure => have := HK1.out; have := HJ2.out; have := HK3.out; omega
                          case rel => exact ⟨(x4_1), (wrap64 (x5_1 + 1)), (by first | rfl | (simp; done) | (simp [*]; done)), H', ⟨by have := HK1.out; have := HJ2.out; have := HK3.out; omega⟩, ⟨by (with_reducible repeat (first | apply Kd.R_alloc | apply Kd.R_drewN | apply Kd.R_drew)); exact HO_4.out⟩, ⟨by repeat (first | (with_reducible first | exact HB.out | apply below_alloc | apply pw_below_drewN | apply below_drew1) | exact HB.out)⟩⟩
                        · rw [if_neg c17] at H
                          have c17b0 : (((rd_T46 l0 x5_1).f1).toList == ([] : List UInt8)) = false := beq_eq_false_iff_ne.mpr c17
                          have c17b1 : (((rd_T46 l0 x5_1).f1).toList != ([] : List UInt8)) = true := bne_iff_ne.mpr c17
                          have H' := Aside0.mk H
                          clear H
                          have p219 : 0 ≤ (x5_1 : Int) := of_decide_eq_true (by first | (with_reducible assumption) | assumption)
                          have q219 : x5_1 < (l0.length : Int) := of_decide_eq_true (by first | (with_reducible assumption) | assumption)
                          obtain ⟨ad219, e219, hx219_0, hx219_1⟩ := at_T46 HR0.out x5_1 p219 q219
                          cases e219
                          replace hx219_0 := (HB.out.cell (World.block_lt_of_cell? w _ hx219_0)).trans hx219_0
                          replace hx219_1 := (HB.out.cell (World.block_lt_of_cell? w _ hx219_1)).trans hx219_1
                          replace p219 := eq_true p219
                          replace q219 := eq_true q219
                          obtain ⟨Ao18, co18, eo18⟩ := Kd.R_slice HO_4.out
                          subst eo18
                          go_wp2
                          repeat (go_quiet (fail); try go_wp2)
                          go_loopg [7] k3 (fun kq v7 w' => ∃ (x7_4 : Int), v7 = .int .i64 x7_4 ∧ Aside0 (soundingsref01_Make.l2 kq l0 x4_1 x5_1 x7_4 = some (r1, r2)) ∧ Aside0 (kq ≤ k3) ∧ Aside0 (Kd.R k46 46 w' w.heap.size (fun _ => True) (.slice Ao18 x4_1.length co18) x4_1) ∧ Aside0 (Below w.heap.size w w'))
                          case atStart => exact ⟨((x4_1.length : Int)), (by first | rfl | (simp; done) | (simp [*]; done)), H', ⟨Nat.le_refl _⟩, ⟨by (with_reducible repeat (first | apply Kd.R_alloc | apply Kd.R_drewN | apply Kd.R_drew)); exact HO_4.out⟩, ⟨by repeat (first | (with_reducible first | exact HB.out | apply below_alloc | apply pw_below_drewN | apply below_drew1) | exact HB.out)⟩⟩
                          case round =>
                            clear H'
                            try clear c1
                            try clear c2
                            try clear c2b0
                            try clear p2
                            try clear q2
                            try clear hx2
                            try clear c4
                            try clear c4b0
                            try clear c6
                            try clear p6
                            try clear c8
                            try clear c9
                            try clear c9b0
                            try clear c10
                            try clear c10b0
                            try clear c11
                            try clear c11b0
                            try clear c12
                            try clear c12b0
                            try clear c13
                            try clear c13b0
                            try clear c14
                            try clear c14b0
                            try clear c14b1
                            try clear c15
                            try clear c15b0
                            try clear c16
                            try clear c16b0
                            try clear c17
                            try clear c17b0
                            try clear c17b1
                            try clear hx213_0
                            try clear hx213_1
                            try clear hx215_0
                            try clear hx215_1
                            try clear hx217_0
                            try clear hx217_1
                            try clear hx218_0
                            try clear hx218_1
                            try clear hx219_0
                            try clear hx219_1
                            try clear p2
                            try clear p213
                            try clear p215
                            try clear p217
                            try clear p218
                            try clear p219
                            try clear q2
                            try clear q213
                            try clear q215
                            try clear q217
                            try clear q218
                            try clear q219
                            obtain ⟨x7_4, rfl, HA, HK4, HO_4, HB⟩ := hrel
                            cases gk with
                            | zero => exact absurd HA.out (by simp [soundingsref01_Make.l2])
                            | succ k4 =>
                              have H := HA.out
                              clear HA
                              simp only [soundingsref01_Make.l2] at H
                              by_cases c19 : x7_4 > 0
                              · rw [if_pos c19] at H
                                have c19b0 : decide (0 < x7_4) = true := decide_eq_true c19
                                clear c19
                                obtain ⟨ji20, hji20⟩ : ∃ j_ : Int, (wrap64 (x7_4 - 1)) = j_ := ⟨_, rfl⟩
                                replace H : (if 0 ≤ (ji20) then (if (ji20) < (x4_1.length : Int) then (if 0 ≤ x5_1 then (if x5_1 < (l0.length : Int) then (if (Op.bytesLess (((rd_T46 l0 x5_1).f0).toList) (((rd_T46 x4_1 (ji20)).f0).toList)) = true then (soundingsref01_Make.l2 k4 l0 x4_1 x5_1 ji20) else (if 0 ≤ x7_4 then (if x7_4 ≤ (x4_1.length : Int) then ((some (x4_1.take (x7_4 : Int).toNat : List (S46))).bind fun y222 => (if ([] : List (S46)).length + y222.length < 4398046511104 then ((some (([] : List (S46)) ++ y222 : List (S46))).bind fun y226 => (if y226.length < 4398046511104 then ((some (y226 ++ [(⟨(rd_T46 l0 x5_1).f0, (rd_T46 l0 x5_1).f1⟩ : S46)] : List (S46))).bind fun y230 => ((some (x4_1.drop (x7_4 : Int).toNat : List (S46))).bind fun y233 => (if y230.length + y233.length < 4398046511104 then (soundingsref01_Make.l0 k4 l0 (y230 ++ y233) (wrap64 (x5_1 + 1))) else (none)))) else (none))) else (none))) else (none)) else (none))) else (none)) else (none)) else (none)) else (none)) = some (r1, r2) := by first | (rw [hji20] at H; exact H) | (simp only [hji20] at H ⊢; exact H)
                                have hji20w : (IntKind.i64.wrap (x7_4 - 1)) = ji20 := (i64_w _).trans hji20
                                by_cases c21 : 0 ≤ (ji20)
                                · rw [if_pos c21] at H
                                  have c21b0 : decide (0 ≤ (ji20)) = true := decide_eq_true c21
                                  clear c21
                                  by_cases c22 : (ji20) < (x4_1.length : Int)
                                  · rw [if_pos c22] at H
                                    have c22b0 : decide ((ji20) < (x4_1.length : Int)) = true := decide_eq_true c22
                                    clear c22
                                    by_cases c23 : 0 ≤ x5_1
                                    · rw [if_pos c23] at H
                                      have c23b0 : decide (0 ≤ x5_1) = true := decide_eq_true c23
                                      clear c23
                                      by_cases c24 : x5_1 < (l0.length : Int)
                                      · rw [if_pos c24] at H
                                        have c24b0 : decide (x5_1 < (l0.length : Int)) = true := decide_eq_true c24
                                        clear c24
                                        by_cases c25 : (Op.bytesLess (((rd_T46 l0 x5_1).f0).toList) (((rd_T46 x4_1 (ji20)).f0).toList)) = true
                                        · rw [if_pos c25] at H
                                          have c25b0 : (Op.bytesLess (((rd_T46 l0 x5_1).f0).toList) (((rd_T46 x4_1 (ji20)).f0).toList)) = true := c25
                                          clear c25
                                          have H' := Aside0.mk H
                                          clear H
                                          have p220 : 0 ≤ ((ji20) : Int) := of_decide_eq_true (by first | (with_reducible assumption) | assumption)
                                          have q220 : (ji20) < (x4_1.length : Int) := of_decide_eq_true (by first | (with_reducible assumption) | assumption)
                                          obtain ⟨ad220, e220, hx220_0, hx220_1⟩ := at_T46 (Kd.R_reads' HO_4.out).2.2 (ji20) p220 q220
                                          cases e220
                                          replace p220 := eq_true p220
                                          replace q220 := eq_true q220
                                          have p221 : 0 ≤ (x5_1 : Int) := of_decide_eq_true (by first | (with_reducible assumption) | assumption)
                                          have q221 : x5_1 < (l0.length : Int) := of_decide_eq_true (by first | (with_reducible assumption) | assumption)
                                          obtain ⟨ad221, e221, hx221_0, hx221_1⟩ := at_T46 HR0.out x5_1 p221 q221
                                          obtain rfl : ad219 = ad221 := (by injection e221)
                                          replace hx221_0 := (HB.out.cell (World.block_lt_of_cell? w _ hx221_0)).trans hx221_0
                                          replace hx221_1 := (HB.out.cell (World.block_lt_of_cell? w _ hx221_1)).trans hx221_1
                                          replace p221 := eq_true p221
                                          replace q221 := eq_true q221
                                          go_wp2
                                          repeat (go_quiet (fail); try go_wp2)
                                          go_roundg k4
                                          case measure => have := HK1.out; have := HJ2.out; have := HK3.out; have := HK4.out; omega
                                          case rel => exact ⟨(ji20), (by first | rfl | (simp; done) | (simp only [← hji20] <;> (first | rfl | simp)) | (simp [*]; done)), H', ⟨by have := HK1.out; have := HJ2.out; have := HK3.out; have := HK4.out; omega⟩, ⟨by (with_reducible repeat (first | apply Kd.R_alloc | apply Kd.R_drewN | apply Kd.R_drew)); exact HO_4.out⟩, ⟨by repeat (first | (with_reducible first | exact HB.out | apply below_alloc | apply pw_below_drewN | apply below_drew1) | exact HB.out)⟩⟩
                                        · rw [if_neg c25] at H
                                          have c25b0 : (Op.bytesLess (((rd_T46 l0 x5_1).f0).toList) (((rd_T46 x4_1 (ji20)).f0).toList)) = false := by simpa using c25
                                          clear c25
                                          by_cases c26 : 0 ≤ x7_4
                                          · rw [if_pos c26] at H
                                            have c26b0 := eq_true c26
                                            have c26b1 : decide (0 ≤ x7_4) = true := decide_eq_true c26
                                            clear c26
                                            by_cases c27 : x7_4 ≤ (x4_1.length : Int)
                                            · rw [if_pos c27] at H
                                              have c27b0 := eq_true c27
                                              have c27b1 : decide (x7_4 ≤ (x4_1.length : Int)) = true := decide_eq_true c27
                                              clear c27
                                              obtain ⟨y222, hy222⟩ : ∃ y_ : List (S46), y_ = (x4_1.take (x7_4 : Int).toNat) := ⟨_, rfl⟩
                                              replace H : (if ([] : List (S46)).length + y222.length < 4398046511104 then ((some (([] : List (S46)) ++ y222 : List (S46))).bind fun y226 => (if y226.length < 4398046511104 then ((some (y226 ++ [(⟨(rd_T46 l0 x5_1).f0, (rd_T46 l0 x5_1).f1⟩ : S46)] : List (S46))).bind fun y230 => ((some (x4_1.drop (x7_4 : Int).toNat : List (S46))).bind fun y233 => (if y230.length + y233.length < 4398046511104 then (soundingsref01_Make.l0 k4 l0 (y230 ++ y233) (wrap64 (x5_1 + 1))) else (none)))) else (none))) else (none)) = some (r1, r2) := by first | (rw [hy222]; with_reducible exact H) | (have H2_ := (Option.bind_some _ _).symm.trans H; rw [hy222]; with_reducible exact H2_) | (have H2_ := (Option.bind_some _ _).symm.trans H; with_reducible exact H2_) | with_reducible exact H | (rw [hy222]; exact H) | exact H
                                              have Ny222 := Aside0.mk hy222
                                              clear hy222
                                              by_cases c28 : ([] : List (S46)).length + y222.length < 4398046511104
                                              · rw [if_pos c28] at H
                                                have LMc28 := Aside0.mk c28
                                                clear c28
                                                obtain ⟨y226, hy226⟩ : ∃ y_ : List (S46), y_ = (([] : List (S46)) ++ y222) := ⟨_, rfl⟩
                                                replace H : (if y226.length < 4398046511104 then ((some (y226 ++ [(⟨(rd_T46 l0 x5_1).f0, (rd_T46 l0 x5_1).f1⟩ : S46)] : List (S46))).bind fun y230 => ((some (x4_1.drop (x7_4 : Int).toNat : List (S46))).bind fun y233 => (if y230.length + y233.length < 4398046511104 then (soundingsref01_Make.l0 k4 l0 (y230 ++ y233) (wrap64 (x5_1 + 1))) else (none)))) else (none)) = some (r1, r2) := by first | (rw [hy226]; with_reducible exact H) | (have H2_ := (Option.bind_some _ _).symm.trans H; rw [hy226]; with_reducible exact H2_) | (have H2_ := (Option.bind_some _ _).symm.trans H; with_reducible exact H2_) | with_reducible exact H | (rw [hy226]; exact H) | exact H
                                                have Ny226 := Aside0.mk hy226
                                                clear hy226
                                                by_cases c29 : y226.length < 4398046511104
                                                · rw [if_pos c29] at H
                                                  have LMc29 := Aside0.mk c29
                                                  clear c29
                                                  obtain ⟨y230, hy230⟩ : ∃ y_ : List (S46), y_ = (y226 ++ [(⟨(rd_T46 l0 x5_1).f0, (rd_T46 l0 x5_1).f1⟩ : S46)]) := ⟨_, rfl⟩
                                                  replace H : ((some (x4_1.drop (x7_4 : Int).toNat : List (S46))).bind fun y233 => (if y230.length + y233.length < 4398046511104 then (soundingsref01_Make.l0 k4 l0 (y230 ++ y233) (wrap64 (x5_1 + 1))) else (none))) = some (r1, r2) := by first | (rw [hy230]; with_reducible exact H) | (have H2_ := (Option.bind_some _ _).symm.trans H; rw [hy230]; with_reducible exact H2_) | (have H2_ := (Option.bind_some _ _).symm.trans H; with_reducible exact H2_) | with_reducible exact H | (rw [hy230]; exact H) | exact H
                                                  have Ny230 := Aside0.mk hy230
                                                  clear hy230
                                                  have c30b0 := eq_true (of_decide_eq_true (by first | (with_reducible assumption) | assumption) : 0 ≤ x7_4)
                                                  have c31b0 := eq_true (of_decide_eq_true (by first | (with_reducible assumption) | assumption) : x7_4 ≤ (x4_1.length : Int))
                                                  obtain ⟨y233, hy233⟩ : ∃ y_ : List (S46), y_ = (x4_1.drop (x7_4 : Int).toNat) := ⟨_, rfl⟩
                                                  replace H : (if y230.length + y233.length < 4398046511104 then (soundingsref01_Make.l0 k4 l0 (y230 ++ y233) (wrap64 (x5_1 + 1))) else (none)) = some (r1, r2) := by first | (rw [hy233]; with_reducible exact H) | (have H2_ := (Option.bind_some _ _).symm.trans H; rw [hy233]; with_reducible exact H2_) | (have H2_ := (Option.bind_some _ _).symm.trans H; with_reducible exact H2_) | with_reducible exact H | (rw [hy233]; exact H) | exact H
                                                  have Ny233 := Aside0.mk hy233
                                                  clear hy233
                                                  by_cases c32 : y230.length + y233.length < 4398046511104
                                                  · rw [if_pos c32] at H
                                                    have LMc32 := Aside0.mk c32
                                                    clear c32
                                                    obtain ⟨y237, hy237⟩ : ∃ y_ : List (S46), y_ = (y230 ++ y233) := ⟨_, rfl⟩
                                                    replace H : (soundingsref01_Make.l0 k4 l0 y237 (wrap64 (x5_1 + 1))) = some (r1, r2) := by first | (rw [hy237]; with_reducible exact H) | (have H2_ := (Option.bind_some _ _).symm.trans H; rw [hy237]; with_reducible exact H2_) | (have H2_ := (Option.bind_some _ _).symm.trans H; with_reducible exact H2_) | with_reducible exact H | (rw [hy237]; exact H) | exact H
                                                    have Ny237 := Aside0.mk hy237
                                                    clear hy237
                                                    have H' := Aside0.mk H
                                                    clear H
                                                    have p220 : 0 ≤ ((ji20) : Int) := of_decide_eq_true (by first | (with_reducible assumption) | assumption)
                                                    have q220 : (ji20) < (x4_1.length : Int) := of_decide_eq_true (by first | (with_reducible assumption) | assumption)
                                                    obtain ⟨ad220, e220, hx220_0, hx220_1⟩ := at_T46 (Kd.R_reads' HO_4.out).2.2 (ji20) p220 q220
                                                    cases e220
                                                    replace p220 := eq_true p220
                                                    replace q220 := eq_true q220
                                                    have p221 : 0 ≤ (x5_1 : Int) := of_decide_eq_true (by first | (with_reducible assumption) | assumption)
                                                    have q221 : x5_1 < (l0.length : Int) := of_decide_eq_true (by first | (with_reducible assumption) | assumption)
                                                    obtain ⟨ad221, e221, hx221_0, hx221_1⟩ := at_T46 HR0.out x5_1 p221 q221
                                                    obtain rfl : ad219 = ad221 := (by injection e221)
                                                    replace hx221_0 := (HB.out.cell (World.block_lt_of_cell? w _ hx221_0)).trans hx221_0
                                                    replace hx221_1 := (HB.out.cell (World.block_lt_of_cell? w _ hx221_1)).trans hx221_1
                                                    replace p221 := eq_true p221
                                                    replace q221 := eq_true q221
                                                    have q33 : (x7_4 : Int) ≤ ((x4_1.length : Int) : Int) := of_decide_eq_true (by first | (with_reducible assumption) | assumption)
                                                    obtain ⟨i033, hi033, _, hsz33, _⟩ := info_parts info46
                                                    have hroom33 : x4_1.length ≤ co18 := (Kd.R_reads' HO_4.out).2.1
                                                    have hC33 : Kd.C k46 _ (some ad220) x4_1.length x4_1 := (Kd.R_reads' HO_4.out).2.2
                                                    have hcut33 := cut_to (P := Tryd.prog) 36 46 .i64 Tryd.underlying36 hi033 (some ad220) x4_1.length co18 x7_4 (of_decide_eq_true (by first | (with_reducible assumption) | assumption)) q33 hroom33
                                                    have hr33 := Kd.C_take (m := (x7_4 : Int).toNat) hC33 (by omega)
                                                    have hy33 : y222.length = (x7_4 : Int).toNat := (by rw [Ny222.out, List.length_take]; omega)
                                                    rw [← Ny222.out] at hr33
                                                    rw [← hy33] at hcut33
                                                    have HR225 := Aside0.mk hr33
                                                    have HC225 := Aside0.mk (show y222.length ≤ co18 from by omega)
                                                    clear hr33 hC33 hroom33 hi033 hsz33
                                                    have KY33 := Aside0.mk hy33
                                                    clear hy33
                                                    have KL33 := Aside0.mk (show (x7_4 : Int).toNat ≤ x4_1.length from by omega)
                                                    replace q33 := eq_true q33
                                                    go_wp2_with (first | ((with_reducible refine gate_builtin (b := .append) (xs := #[.tmp 73, .tmp 76]) rfl ?_); at_builtin; refine Kd.R_append_rows k46 (w0 := w) w.heap.size rfl (.tmp 73) (.tmp 76) 36 46 (.agg #[(.string ⟨#[]⟩), (.string ⟨#[]⟩)]) 32 rfl Tryd.underlying36 info46 rfl (by decide) (by omega) (.slice none 0 0) ([] : List (S46)) y222 _ _ _ (fun k_ => some k_ ≠ (.slice (some ad220) x4_1.length co18 : Value).ownBlock) (fun _ => False) rfl rfl ?aO ?aR (fun _ _ h => h) (fun _ h => h.elim) ?aF ?aB ?aS ?aL ?_; (case aR => repeat (first | exact (by repeat (first | (with_reducible exact HR225.out) | (with_reducible refine Kd.C_alloc ?_ _) | (with_reducible refine Kd.C_drewN ?_ _) | (with_reducible refine Kd.C_drew ?_) | exact HR225.out)) | (with_reducible refine Kd.C_alloc ?_ _) | (with_reducible refine Kd.C_drewN ?_ _) | (with_reducible refine Kd.C_drew ?_))); (case aB => exact (by repeat (first | (with_reducible first | exact HB.out | apply below_alloc | apply pw_below_drewN | apply below_drew1) | exact HB.out))); (case aF => exact (fun k_ hk => Kd.fresh' (Kd.R_lt (by (with_reducible repeat (first | apply Kd.R_alloc | apply Kd.R_drewN | apply Kd.R_drew)); exact HO_4.out)) k_ hk)); (case aO => exact ((Kd.R_nil _ _ _ _ (fun k_ => some k_ ≠ (.slice (some ad220) x4_1.length co18 : Value).ownBlock)))); (case aS => exact (below_size (by repeat (first | (with_reducible first | exact HB.out | apply below_alloc | apply pw_below_drewN | apply below_drew1) | exact HB.out)))); (case aL => have := LMc28.out; omega); intro v227 w34 ho hb hg hat; rw [← Ny226.out] at ho; have n0_ := Aside0.mk (Kd.R_after (Kd.R_apart_nil (by (with_reducible repeat (first | apply Kd.R_alloc | apply Kd.R_drewN | apply Kd.R_drew)); exact HO_4.out)) hg hat); have n1_ := Aside0.mk (hb); have n2_ := Aside0.mk ((show Kd.C k46 w34 (some ad220) y222.length y222 from by rw [Ny222.out]; exact Kd.C_take (m := (x7_4 : Int).toNat) ((Kd.R_reads' (Kd.R_after (Kd.R_apart_nil (by (with_reducible repeat (first | apply Kd.R_alloc | apply Kd.R_drewN | apply Kd.R_drew)); exact HO_4.out)) hg hat)).2.2) KL33.out)); have n3_ := Aside0.mk (ho); clear HO_4; clear HB; clear HR225; have HO_4 := n0_; have HB := n1_; have HR225 := n2_; have HO228 := n3_; clear n0_ n1_ n2_ n3_; clear ho hb hg hat; have p229 : 0 ≤ (x5_1 : Int) := of_decide_eq_true (by first | (with_reducible assumption) | assumption); have q229 : x5_1 < (l0.length : Int) := of_decide_eq_true (by first | (with_reducible assumption) | assumption); obtain ⟨ad229, e229, hx229_0, hx229_1⟩ := at_T46 HR0.out x5_1 p229 q229; obtain rfl : ad219 = ad229 := (by injection e229); replace hx229_0 := (HB.out.cell (World.block_lt_of_cell? w _ hx229_0)).trans hx229_0; replace hx229_1 := (HB.out.cell (World.block_lt_of_cell? w _ hx229_1)).trans hx229_1; replace p229 := eq_true p229; replace q229 := eq_true q229) | ((with_reducible refine gate_builtin (b := .append) (xs := #[.tmp 78, .tmp 83]) rfl ?_); at_builtin; refine Kd.R_append k46 (w0 := w) w.heap.size rfl (.tmp 78) (.tmp 83) 36 46 (.agg #[(.string ⟨#[]⟩), (.string ⟨#[]⟩)]) 32 rfl Tryd.underlying36 info46 rfl (by decide) (by omega) v227 y226 (⟨(rd_T46 l0 x5_1).f0, (rd_T46 l0 x5_1).f1⟩ : S46) [.string ((rd_T46 l0 x5_1).f0), .string ((rd_T46 l0 x5_1).f1)] (fun k_ => some k_ ≠ (.slice (some ad220) x4_1.length co18 : Value).ownBlock) (fun _ => False) rfl rfl ?aP (fun _ hk => hk.elim) ?aF ?aO ?aB ?aS ?aL ?_; (case aP => exact k46_mkM _ _ _ (⟨(rd_T46 l0 x5_1).f0, (rd_T46 l0 x5_1).f1⟩ : S46)); (case aB => exact (by repeat (first | (with_reducible first | exact HB.out | apply below_alloc | apply pw_below_drewN | apply below_drew1) | exact HB.out))); (case aF => exact (fun k_ hk => Kd.fresh' (Kd.R_lt (by (with_reducible repeat (first | apply Kd.R_alloc | apply Kd.R_drewN | apply Kd.R_drew)); exact HO_4.out)) k_ hk)); (case aO => exact (by (with_reducible repeat (first | apply Kd.R_alloc | apply Kd.R_drewN | apply Kd.R_drew)); exact HO228.out)); (case aS => exact (below_size (by repeat (first | (with_reducible first | exact HB.out | apply below_alloc | apply pw_below_drewN | apply below_drew1) | exact HB.out)))); (case aL => have := LMc29.out; omega); intro v231 w35 ho hb hg hat; rw [← Ny230.out] at ho; have n0_ := Aside0.mk (Kd.R_after (ok := (fun _ => True)) (by (with_reducible repeat (first | apply Kd.R_alloc | apply Kd.R_drewN | apply Kd.R_drew)); exact HO_4.out) hg hat); have n1_ := Aside0.mk (hb); have n2_ := Aside0.mk ((show Kd.C k46 w35 (some ad220) y222.length y222 from by rw [Ny222.out]; exact Kd.C_take (m := (x7_4 : Int).toNat) ((Kd.R_reads' (Kd.R_after (ok := (fun _ => True)) (by (with_reducible repeat (first | apply Kd.R_alloc | apply Kd.R_drewN | apply Kd.R_drew)); exact HO_4.out) hg hat)).2.2) KL33.out)); have n3_ := Aside0.mk (ho); clear HO_4; clear HB; clear HR225; clear HO228; have HO_4 := n0_; have HB := n1_; have HR225 := n2_; have HO232 := n3_; clear n0_ n1_ n2_ n3_; clear ho hb hg hat; have q36 : (x7_4 : Int) ≤ ((x4_1.length : Int) : Int) := of_decide_eq_true (by first | (with_reducible assumption) | assumption); obtain ⟨i036, hi036, _, hsz36, _⟩ := info_parts info46; have hroom36 : x4_1.length ≤ co18 := (Kd.R_reads' HO_4.out).2.1; have hC36 : Kd.C k46 _ (some ad220) x4_1.length x4_1 := (Kd.R_reads' HO_4.out).2.2; have q036 : (0 : Int) ≤ (x7_4 : Int) := of_decide_eq_true (by first | (with_reducible assumption) | assumption); have hcut36 := cut_from (P := Tryd.prog) 36 46 .i64 Tryd.underlying36 hi036 2 hsz36 (some ad220) x4_1.length co18 x7_4 q036 q36; have hr36 := Kd.C_drop (m := (x7_4 : Int).toNat) (c := co18) hC36 (by omega) hroom36; obtain ⟨A36, hA36⟩ : ∃ A1, A1 = (if co18 = (x7_4 : Int).toNat then (some ad220) else ((some ad220) : Option Addr).map (·.add ((x7_4 : Int).toNat * 2))) := ⟨_, rfl⟩; obtain ⟨c36, hc36⟩ : ∃ c1, c1 = co18 - (x7_4 : Int).toNat := ⟨_, rfl⟩; have hy36 : y233.length = x4_1.length - (x7_4 : Int).toNat := (by rw [Ny233.out, List.length_drop] <;> omega); rw [show (x4_1).drop (x7_4 : Int).toNat = y233 from Ny233.out.symm] at hr36; replace hr36 : Kd.C k46 _ A36 y233.length y233 := (by rw [hA36]; exact hr36); rw [← hy36, ← hA36, ← hc36] at hcut36; have HR236 := Aside0.mk hr36; have HC236 := Aside0.mk (show y233.length ≤ c36 from by rw [hy36, hc36]; exact Nat.sub_le_sub_right hroom36 _); clear hr36 hC36 hroom36 hi036 hsz36 hc36; have KY36 := Aside0.mk hy36; have KA36 := Aside0.mk hA36; clear hy36 hA36; have KL36 := Aside0.mk (show (x7_4 : Int).toNat ≤ x4_1.length from by omega); replace q36 := eq_true q36) | ((with_reducible refine gate_builtin (b := .append) (xs := #[.tmp 85, .tmp 88]) rfl ?_); at_builtin; refine Kd.R_append_rows k46 (w0 := w) w.heap.size rfl (.tmp 85) (.tmp 88) 36 46 (.agg #[(.string ⟨#[]⟩), (.string ⟨#[]⟩)]) 32 rfl Tryd.underlying36 info46 rfl (by decide) (by omega) v231 y230 y233 _ _ _ (fun k_ => some k_ ≠ (.slice (some ad220) x4_1.length co18 : Value).ownBlock) (fun _ => False) rfl rfl ?aO ?aR (fun _ _ h => h) (fun _ h => h.elim) ?aF ?aB ?aS ?aL ?_; (case aR => repeat (first | exact (by repeat (first | (with_reducible exact HR236.out) | (with_reducible refine Kd.C_alloc ?_ _) | (with_reducible refine Kd.C_drewN ?_ _) | (with_reducible refine Kd.C_drew ?_) | exact HR236.out)) | (with_reducible refine Kd.C_alloc ?_ _) | (with_reducible refine Kd.C_drewN ?_ _) | (with_reducible refine Kd.C_drew ?_))); (case aB => exact (by repeat (first | (with_reducible first | exact HB.out | apply below_alloc | apply pw_below_drewN | apply below_drew1) | exact HB.out))); (case aF => exact (fun k_ hk => Kd.fresh' (Kd.R_lt (by (with_reducible repeat (first | apply Kd.R_alloc | apply Kd.R_drewN | apply Kd.R_drew)); exact HO_4.out)) k_ hk)); (case aO => exact (by (with_reducible repeat (first | apply Kd.R_alloc | apply Kd.R_drewN | apply Kd.R_drew)); exact HO232.out)); (case aS => exact (below_size (by repeat (first | (with_reducible first | exact HB.out | apply below_alloc | apply pw_below_drewN | apply below_drew1) | exact HB.out)))); (case aL => have := LMc32.out; omega); intro v238 w37 ho hb hg hat; rw [← Ny237.out] at ho; have n0_ := Aside0.mk (Kd.R_after (ok := (fun _ => True)) (by (with_reducible repeat (first | apply Kd.R_alloc | apply Kd.R_drewN | apply Kd.R_drew)); exact HO_4.out) hg hat); have n1_ := Aside0.mk (hb); have n2_ := Aside0.mk ((show Kd.C k46 w37 (some ad220) y222.length y222 from by rw [Ny222.out]; exact Kd.C_take (m := (x7_4 : Int).toNat) ((Kd.R_reads' (Kd.R_after (ok := (fun _ => True)) (by (with_reducible repeat (first | apply Kd.R_alloc | apply Kd.R_drewN | apply Kd.R_drew)); exact HO_4.out) hg hat)).2.2) KL33.out)); have n3_ := Aside0.mk ((show Kd.C k46 w37 A36 y233.length y233 from by rw [Ny233.out, KA36.out]; exact Kd.C_drop (m := (x7_4 : Int).toNat) (c := co18) ((Kd.R_reads' (Kd.R_after (ok := (fun _ => True)) (by (with_reducible repeat (first | apply Kd.R_alloc | apply Kd.R_drewN | apply Kd.R_drew)); exact HO_4.out) hg hat)).2.2) KL36.out ((Kd.R_reads' (Kd.R_after (ok := (fun _ => True)) (by (with_reducible repeat (first | apply Kd.R_alloc | apply Kd.R_drewN | apply Kd.R_drew)); exact HO_4.out) hg hat)).2.1))); have n4_ := Aside0.mk (ho); clear HO_4; clear HB; clear HR225; clear HR236; clear HO232; have HO_4 := n0_; have HB := n1_; have HR225 := n2_; have HR236 := n3_; have HO239 := n4_; clear n0_ n1_ n2_ n3_ n4_; clear ho hb hg hat))
                                                    repeat (go_quiet (first | ((with_reducible refine gate_builtin (b := .append) (xs := #[.tmp 73, .tmp 76]) rfl ?_); at_builtin; refine Kd.R_append_rows k46 (w0 := w) w.heap.size rfl (.tmp 73) (.tmp 76) 36 46 (.agg #[(.string ⟨#[]⟩), (.string ⟨#[]⟩)]) 32 rfl Tryd.underlying36 info46 rfl (by decide) (by omega) (.slice none 0 0) ([] : List (S46)) y222 _ _ _ (fun k_ => some k_ ≠ (.slice (some ad220) x4_1.length co18 : Value).ownBlock) (fun _ => False) rfl rfl ?aO ?aR (fun _ _ h => h) (fun _ h => h.elim) ?aF ?aB ?aS ?aL ?_; (case aR => repeat (first | exact (by repeat (first | (with_reducible exact HR225.out) | (with_reducible refine Kd.C_alloc ?_ _) | (with_reducible refine Kd.C_drewN ?_ _) | (with_reducible refine Kd.C_drew ?_) | exact HR225.out)) | (with_reducible refine Kd.C_alloc ?_ _) | (with_reducible refine Kd.C_drewN ?_ _) | (with_reducible refine Kd.C_drew ?_))); (case aB => exact (by repeat (first | (with_reducible first | exact HB.out | apply below_alloc | apply pw_below_drewN | apply below_drew1) | exact HB.out))); (case aF => exact (fun k_ hk => Kd.fresh' (Kd.R_lt (by (with_reducible repeat (first | apply Kd.R_alloc | apply Kd.R_drewN | apply Kd.R_drew)); exact HO_4.out)) k_ hk)); (case aO => exact ((Kd.R_nil _ _ _ _ (fun k_ => some k_ ≠ (.slice (some ad220) x4_1.length co18 : Value).ownBlock)))); (case aS => exact (below_size (by repeat (first | (with_reducible first | exact HB.out | apply below_alloc | apply pw_below_drewN | apply below_drew1) | exact HB.out)))); (case aL => have := LMc28.out; omega); intro v227 w34 ho hb hg hat; rw [← Ny226.out] at ho; have n0_ := Aside0.mk (Kd.R_after (Kd.R_apart_nil (by (with_reducible repeat (first | apply Kd.R_alloc | apply Kd.R_drewN | apply Kd.R_drew)); exact HO_4.out)) hg hat); have n1_ := Aside0.mk (hb); have n2_ := Aside0.mk ((show Kd.C k46 w34 (some ad220) y222.length y222 from by rw [Ny222.out]; exact Kd.C_take (m := (x7_4 : Int).toNat) ((Kd.R_reads' (Kd.R_after (Kd.R_apart_nil (by (with_reducible repeat (first | apply Kd.R_alloc | apply Kd.R_drewN | apply Kd.R_drew)); exact HO_4.out)) hg hat)).2.2) KL33.out)); have n3_ := Aside0.mk (ho); clear HO_4; clear HB; clear HR225; have HO_4 := n0_; have HB := n1_; have HR225 := n2_; have HO228 := n3_; clear n0_ n1_ n2_ n3_; clear ho hb hg hat; have p229 : 0 ≤ (x5_1 : Int) := of_decide_eq_true (by first | (with_reducible assumption) | assumption); have q229 : x5_1 < (l0.length : Int) := of_decide_eq_true (by first | (with_reducible assumption) | assumption); obtain ⟨ad229, e229, hx229_0, hx229_1⟩ := at_T46 HR0.out x5_1 p229 q229; obtain rfl : ad219 = ad229 := (by injection e229); replace hx229_0 := (HB.out.cell (World.block_lt_of_cell? w _ hx229_0)).trans hx229_0; replace hx229_1 := (HB.out.cell (World.block_lt_of_cell? w _ hx229_1)).trans hx229_1; replace p229 := eq_true p229; replace q229 := eq_true q229) | ((with_reducible refine gate_builtin (b := .append) (xs := #[.tmp 78, .tmp 83]) rfl ?_); at_builtin; refine Kd.R_append k46 (w0 := w) w.heap.size rfl (.tmp 78) (.tmp 83) 36 46 (.agg #[(.string ⟨#[]⟩), (.string ⟨#[]⟩)]) 32 rfl Tryd.underlying36 info46 rfl (by decide) (by omega) v227 y226 (⟨(rd_T46 l0 x5_1).f0, (rd_T46 l0 x5_1).f1⟩ : S46) [.string ((rd_T46 l0 x5_1).f0), .string ((rd_T46 l0 x5_1).f1)] (fun k_ => some k_ ≠ (.slice (some ad220) x4_1.length co18 : Value).ownBlock) (fun _ => False) rfl rfl ?aP (fun _ hk => hk.elim) ?aF ?aO ?aB ?aS ?aL ?_; (case aP => exact k46_mkM _ _ _ (⟨(rd_T46 l0 x5_1).f0, (rd_T46 l0 x5_1).f1⟩ : S46)); (case aB => exact (by repeat (first | (with_reducible first | exact HB.out | apply below_alloc | apply pw_below_drewN | apply below_drew1) | exact HB.out))); (case aF => exact (fun k_ hk => Kd.fresh' (Kd.R_lt (by (with_reducible repeat (first | apply Kd.R_alloc | apply Kd.R_drewN | apply Kd.R_drew)); exact HO_4.out)) k_ hk)); (case aO => exact (by (with_reducible repeat (first | apply Kd.R_alloc | apply Kd.R_drewN | apply Kd.R_drew)); exact HO228.out)); (case aS => exact (below_size (by repeat (first | (with_reducible first | exact HB.out | apply below_alloc | apply pw_below_drewN | apply below_drew1) | exact HB.out)))); (case aL => have := LMc29.out; omega); intro v231 w35 ho hb hg hat; rw [← Ny230.out] at ho; have n0_ := Aside0.mk (Kd.R_after (ok := (fun _ => True)) (by (with_reducible repeat (first | apply Kd.R_alloc | apply Kd.R_drewN | apply Kd.R_drew)); exact HO_4.out) hg hat); have n1_ := Aside0.mk (hb); have n2_ := Aside0.mk ((show Kd.C k46 w35 (some ad220) y222.length y222 from by rw [Ny222.out]; exact Kd.C_take (m := (x7_4 : Int).toNat) ((Kd.R_reads' (Kd.R_after (ok := (fun _ => True)) (by (with_reducible repeat (first | apply Kd.R_alloc | apply Kd.R_drewN | apply Kd.R_drew)); exact HO_4.out) hg hat)).2.2) KL33.out)); have n3_ := Aside0.mk (ho); clear HO_4; clear HB; clear HR225; clear HO228; have HO_4 := n0_; have HB := n1_; have HR225 := n2_; have HO232 := n3_; clear n0_ n1_ n2_ n3_; clear ho hb hg hat; have q36 : (x7_4 : Int) ≤ ((x4_1.length : Int) : Int) := of_decide_eq_true (by first | (with_reducible assumption) | assumption); obtain ⟨i036, hi036, _, hsz36, _⟩ := info_parts info46; have hroom36 : x4_1.length ≤ co18 := (Kd.R_reads' HO_4.out).2.1; have hC36 : Kd.C k46 _ (some ad220) x4_1.length x4_1 := (Kd.R_reads' HO_4.out).2.2; have q036 : (0 : Int) ≤ (x7_4 : Int) := of_decide_eq_true (by first | (with_reducible assumption) | assumption); have hcut36 := cut_from (P := Tryd.prog) 36 46 .i64 Tryd.underlying36 hi036 2 hsz36 (some ad220) x4_1.length co18 x7_4 q036 q36; have hr36 := Kd.C_drop (m := (x7_4 : Int).toNat) (c := co18) hC36 (by omega) hroom36; obtain ⟨A36, hA36⟩ : ∃ A1, A1 = (if co18 = (x7_4 : Int).toNat then (some ad220) else ((some ad220) : Option Addr).map (·.add ((x7_4 : Int).toNat * 2))) := ⟨_, rfl⟩; obtain ⟨c36, hc36⟩ : ∃ c1, c1 = co18 - (x7_4 : Int).toNat := ⟨_, rfl⟩; have hy36 : y233.length = x4_1.length - (x7_4 : Int).toNat := (by rw [Ny233.out, List.length_drop] <;> omega); rw [show (x4_1).drop (x7_4 : Int).toNat = y233 from Ny233.out.symm] at hr36; replace hr36 : Kd.C k46 _ A36 y233.length y233 := (by rw [hA36]; exact hr36); rw [← hy36, ← hA36, ← hc36] at hcut36; have HR236 := Aside0.mk hr36; have HC236 := Aside0.mk (show y233.length ≤ c36 from by rw [hy36, hc36]; exact Nat.sub_le_sub_right hroom36 _); clear hr36 hC36 hroom36 hi036 hsz36 hc36; have KY36 := Aside0.mk hy36; have KA36 := Aside0.mk hA36; clear hy36 hA36; have KL36 := Aside0.mk (show (x7_4 : Int).toNat ≤ x4_1.length from by omega); replace q36 := eq_true q36) | ((with_reducible refine gate_builtin (b := .append) (xs := #[.tmp 85, .tmp 88]) rfl ?_); at_builtin; refine Kd.R_append_rows k46 (w0 := w) w.heap.size rfl (.tmp 85) (.tmp 88) 36 46 (.agg #[(.string ⟨#[]⟩), (.string ⟨#[]⟩)]) 32 rfl Tryd.underlying36 info46 rfl (by decide) (by omega) v231 y230 y233 _ _ _ (fun k_ => some k_ ≠ (.slice (some ad220) x4_1.length co18 : Value).ownBlock) (fun _ => False) rfl rfl ?aO ?aR (fun _ _ h => h) (fun _ h => h.elim) ?aF ?aB ?aS ?aL ?_; (case aR => repeat (first | exact (by repeat (first | (with_reducible exact HR236.out) | (with_reducible refine Kd.C_alloc ?_ _) | (with_reducible refine Kd.C_drewN ?_ _) | (with_reducible refine Kd.C_drew ?_) | exact HR236.out)) | (with_reducible refine Kd.C_alloc ?_ _) | (with_reducible refine Kd.C_drewN ?_ _) | (with_reducible refine Kd.C_drew ?_))); (case aB => exact (by repeat (first | (with_reducible first | exact HB.out | apply below_alloc | apply pw_below_drewN | apply below_drew1) | exact HB.out))); (case aF => exact (fun k_ hk => Kd.fresh' (Kd.R_lt (by (with_reducible repeat (first | apply Kd.R_alloc | apply Kd.R_drewN | apply Kd.R_drew)); exact HO_4.out)) k_ hk)); (case aO => exact (by (with_reducible repeat (first | apply Kd.R_alloc | apply Kd.R_drewN | apply Kd.R_drew)); exact HO232.out)); (case aS => exact (below_size (by repeat (first | (with_reducible first | exact HB.out | apply below_alloc | apply pw_below_drewN | apply below_drew1) | exact HB.out)))); (case aL => have := LMc32.out; omega); intro v238 w37 ho hb hg hat; rw [← Ny237.out] at ho; have n0_ := Aside0.mk (Kd.R_after (ok := (fun _ => True)) (by (with_reducible repeat (first | apply Kd.R_alloc | apply Kd.R_drewN | apply Kd.R_drew)); exact HO_4.out) hg hat); have n1_ := Aside0.mk (hb); have n2_ := Aside0.mk ((show Kd.C k46 w37 (some ad220) y222.length y222 from by rw [Ny222.out]; exact Kd.C_take (m := (x7_4 : Int).toNat) ((Kd.R_reads' (Kd.R_after (ok := (fun _ => True)) (by (with_reducible repeat (first | apply Kd.R_alloc | apply Kd.R_drewN | apply Kd.R_drew)); exact HO_4.out) hg hat)).2.2) KL33.out)); have n3_ := Aside0.mk ((show Kd.C k46 w37 A36 y233.length y233 from by rw [Ny233.out, KA36.out]; exact Kd.C_drop (m := (x7_4 : Int).toNat) (c := co18) ((Kd.R_reads' (Kd.R_after (ok := (fun _ => True)) (by (with_reducible repeat (first | apply Kd.R_alloc | apply Kd.R_drewN | apply Kd.R_drew)); exact HO_4.out) hg hat)).2.2) KL36.out ((Kd.R_reads' (Kd.R_after (ok := (fun _ => True)) (by (with_reducible repeat (first | apply Kd.R_alloc | apply Kd.R_drewN | apply Kd.R_drew)); exact HO_4.out) hg hat)).2.1))); have n4_ := Aside0.mk (ho); clear HO_4; clear HB; clear HR225; clear HR236; clear HO232; have HO_4 := n0_; have HB := n1_; have HR225 := n2_; have HR236 := n3_; have HO239 := n4_; clear n0_ n1_ n2_ n3_ n4_; clear ho hb hg hat)); try go_wp2_with (first | ((with_reducible refine gate_builtin (b := .append) (xs := #[.tmp 73, .tmp 76]) rfl ?_); at_builtin; refine Kd.R_append_rows k46 (w0 := w) w.heap.size rfl (.tmp 73) (.tmp 76) 36 46 (.agg #[(.string ⟨#[]⟩), (.string ⟨#[]⟩)]) 32 rfl Tryd.underlying36 info46 rfl (by decide) (by omega) (.slice none 0 0) ([] : List (S46)) y222 _ _ _ (fun k_ => some k_ ≠ (.slice (some ad220) x4_1.length co18 : Value).ownBlock) (fun _ => False) rfl rfl ?aO ?aR (fun _ _ h => h) (fun _ h => h.elim) ?aF ?aB ?aS ?aL ?_; (case aR => repeat (first | exact (by repeat (first | (with_reducible exact HR225.out) | (with_reducible refine Kd.C_alloc ?_ _) | (with_reducible refine Kd.C_drewN ?_ _) | (with_reducible refine Kd.C_drew ?_) | exact HR225.out)) | (with_reducible refine Kd.C_alloc ?_ _) | (with_reducible refine Kd.C_drewN ?_ _) | (with_reducible refine Kd.C_drew ?_))); (case aB => exact (by repeat (first | (with_reducible first | exact HB.out | apply below_alloc | apply pw_below_drewN | apply below_drew1) | exact HB.out))); (case aF => exact (fun k_ hk => Kd.fresh' (Kd.R_lt (by (with_reducible repeat (first | apply Kd.R_alloc | apply Kd.R_drewN | apply Kd.R_drew)); exact HO_4.out)) k_ hk)); (case aO => exact ((Kd.R_nil _ _ _ _ (fun k_ => some k_ ≠ (.slice (some ad220) x4_1.length co18 : Value).ownBlock)))); (case aS => exact (below_size (by repeat (first | (with_reducible first | exact HB.out | apply below_alloc | apply pw_below_drewN | apply below_drew1) | exact HB.out)))); (case aL => have := LMc28.out; omega); intro v227 w34 ho hb hg hat; rw [← Ny226.out] at ho; have n0_ := Aside0.mk (Kd.R_after (Kd.R_apart_nil (by (with_reducible repeat (first | apply Kd.R_alloc | apply Kd.R_drewN | apply Kd.R_drew)); exact HO_4.out)) hg hat); have n1_ := Aside0.mk (hb); have n2_ := Aside0.mk ((show Kd.C k46 w34 (some ad220) y222.length y222 from by rw [Ny222.out]; exact Kd.C_take (m := (x7_4 : Int).toNat) ((Kd.R_reads' (Kd.R_after (Kd.R_apart_nil (by (with_reducible repeat (first | apply Kd.R_alloc | apply Kd.R_drewN | apply Kd.R_drew)); exact HO_4.out)) hg hat)).2.2) KL33.out)); have n3_ := Aside0.mk (ho); clear HO_4; clear HB; clear HR225; have HO_4 := n0_; have HB := n1_; have HR225 := n2_; have HO228 := n3_; clear n0_ n1_ n2_ n3_; clear ho hb hg hat; have p229 : 0 ≤ (x5_1 : Int) := of_decide_eq_true (by first | (with_reducible assumption) | assumption); have q229 : x5_1 < (l0.length : Int) := of_decide_eq_true (by first | (with_reducible assumption) | assumption); obtain ⟨ad229, e229, hx229_0, hx229_1⟩ := at_T46 HR0.out x5_1 p229 q229; obtain rfl : ad219 = ad229 := (by injection e229); replace hx229_0 := (HB.out.cell (World.block_lt_of_cell? w _ hx229_0)).trans hx229_0; replace hx229_1 := (HB.out.cell (World.block_lt_of_cell? w _ hx229_1)).trans hx229_1; replace p229 := eq_true p229; replace q229 := eq_true q229) | ((with_reducible refine gate_builtin (b := .append) (xs := #[.tmp 78, .tmp 83]) rfl ?_); at_builtin; refine Kd.R_append k46 (w0 := w) w.heap.size rfl (.tmp 78) (.tmp 83) 36 46 (.agg #[(.string ⟨#[]⟩), (.string ⟨#[]⟩)]) 32 rfl Tryd.underlying36 info46 rfl (by decide) (by omega) v227 y226 (⟨(rd_T46 l0 x5_1).f0, (rd_T46 l0 x5_1).f1⟩ : S46) [.string ((rd_T46 l0 x5_1).f0), .string ((rd_T46 l0 x5_1).f1)] (fun k_ => some k_ ≠ (.slice (some ad220) x4_1.length co18 : Value).ownBlock) (fun _ => False) rfl rfl ?aP (fun _ hk => hk.elim) ?aF ?aO ?aB ?aS ?aL ?_; (case aP => exact k46_mkM _ _ _ (⟨(rd_T46 l0 x5_1).f0, (rd_T46 l0 x5_1).f1⟩ : S46)); (case aB => exact (by repeat (first | (with_reducible first | exact HB.out | apply below_alloc | apply pw_below_drewN | apply below_drew1) | exact HB.out))); (case aF => exact (fun k_ hk => Kd.fresh' (Kd.R_lt (by (with_reducible repeat (first | apply Kd.R_alloc | apply Kd.R_drewN | apply Kd.R_drew)); exact HO_4.out)) k_ hk)); (case aO => exact (by (with_reducible repeat (first | apply Kd.R_alloc | apply Kd.R_drewN | apply Kd.R_drew)); exact HO228.out)); (case aS => exact (below_size (by repeat (first | (with_reducible first | exact HB.out | apply below_alloc | apply pw_below_drewN | apply below_drew1) | exact HB.out)))); (case aL => have := LMc29.out; omega); intro v231 w35 ho hb hg hat; rw [← Ny230.out] at ho; have n0_ := Aside0.mk (Kd.R_after (ok := (fun _ => True)) (by (with_reducible repeat (first | apply Kd.R_alloc | apply Kd.R_drewN | apply Kd.R_drew)); exact HO_4.out) hg hat); have n1_ := Aside0.mk (hb); have n2_ := Aside0.mk ((show Kd.C k46 w35 (some ad220) y222.length y222 from by rw [Ny222.out]; exact Kd.C_take (m := (x7_4 : Int).toNat) ((Kd.R_reads' (Kd.R_after (ok := (fun _ => True)) (by (with_reducible repeat (first | apply Kd.R_alloc | apply Kd.R_drewN | apply Kd.R_drew)); exact HO_4.out) hg hat)).2.2) KL33.out)); have n3_ := Aside0.mk (ho); clear HO_4; clear HB; clear HR225; clear HO228; have HO_4 := n0_; have HB := n1_; have HR225 := n2_; have HO232 := n3_; clear n0_ n1_ n2_ n3_; clear ho hb hg hat; have q36 : (x7_4 : Int) ≤ ((x4_1.length : Int) : Int) := of_decide_eq_true (by first | (with_reducible assumption) | assumption); obtain ⟨i036, hi036, _, hsz36, _⟩ := info_parts info46; have hroom36 : x4_1.length ≤ co18 := (Kd.R_reads' HO_4.out).2.1; have hC36 : Kd.C k46 _ (some ad220) x4_1.length x4_1 := (Kd.R_reads' HO_4.out).2.2; have q036 : (0 : Int) ≤ (x7_4 : Int) := of_decide_eq_true (by first | (with_reducible assumption) | assumption); have hcut36 := cut_from (P := Tryd.prog) 36 46 .i64 Tryd.underlying36 hi036 2 hsz36 (some ad220) x4_1.length co18 x7_4 q036 q36; have hr36 := Kd.C_drop (m := (x7_4 : Int).toNat) (c := co18) hC36 (by omega) hroom36; obtain ⟨A36, hA36⟩ : ∃ A1, A1 = (if co18 = (x7_4 : Int).toNat then (some ad220) else ((some ad220) : Option Addr).map (·.add ((x7_4 : Int).toNat * 2))) := ⟨_, rfl⟩; obtain ⟨c36, hc36⟩ : ∃ c1, c1 = co18 - (x7_4 : Int).toNat := ⟨_, rfl⟩; have hy36 : y233.length = x4_1.length - (x7_4 : Int).toNat := (by rw [Ny233.out, List.length_drop] <;> omega); rw [show (x4_1).drop (x7_4 : Int).toNat = y233 from Ny233.out.symm] at hr36; replace hr36 : Kd.C k46 _ A36 y233.length y233 := (by rw [hA36]; exact hr36); rw [← hy36, ← hA36, ← hc36] at hcut36; have HR236 := Aside0.mk hr36; have HC236 := Aside0.mk (show y233.length ≤ c36 from by rw [hy36, hc36]; exact Nat.sub_le_sub_right hroom36 _); clear hr36 hC36 hroom36 hi036 hsz36 hc36; have KY36 := Aside0.mk hy36; have KA36 := Aside0.mk hA36; clear hy36 hA36; have KL36 := Aside0.mk (show (x7_4 : Int).toNat ≤ x4_1.length from by omega); replace q36 := eq_true q36) | ((with_reducible refine gate_builtin (b := .append) (xs := #[.tmp 85, .tmp 88]) rfl ?_); at_builtin; refine Kd.R_append_rows k46 (w0 := w) w.heap.size rfl (.tmp 85) (.tmp 88) 36 46 (.agg #[(.string ⟨#[]⟩), (.string ⟨#[]⟩)]) 32 rfl Tryd.underlying36 info46 rfl (by decide) (by omega) v231 y230 y233 _ _ _ (fun k_ => some k_ ≠ (.slice (some ad220) x4_1.length co18 : Value).ownBlock) (fun _ => False) rfl rfl ?aO ?aR (fun _ _ h => h) (fun _ h => h.elim) ?aF ?aB ?aS ?aL ?_; (case aR => repeat (first | exact (by repeat (first | (with_reducible exact HR236.out) | (with_reducible refine Kd.C_alloc ?_ _) | (with_reducible refine Kd.C_drewN ?_ _) | (with_reducible refine Kd.C_drew ?_) | exact HR236.out)) | (with_reducible refine Kd.C_alloc ?_ _) | (with_reducible refine Kd.C_drewN ?_ _) | (with_reducible refine Kd.C_drew ?_))); (case aB => exact (by repeat (first | (with_reducible first | exact HB.out | apply below_alloc | apply pw_below_drewN | apply below_drew1) | exact HB.out))); (case aF => exact (fun k_ hk => Kd.fresh' (Kd.R_lt (by (with_reducible repeat (first | apply Kd.R_alloc | apply Kd.R_drewN | apply Kd.R_drew)); exact HO_4.out)) k_ hk)); (case aO => exact (by (with_reducible repeat (first | apply Kd.R_alloc | apply Kd.R_drewN | apply Kd.R_drew)); exact HO232.out)); (case aS => exact (below_size (by repeat (first | (with_reducible first | exact HB.out | apply below_alloc | apply pw_below_drewN | apply below_drew1) | exact HB.out)))); (case aL => have := LMc32.out; omega); intro v238 w37 ho hb hg hat; rw [← Ny237.out] at ho; have n0_ := Aside0.mk (Kd.R_after (ok := (fun _ => True)) (by (with_reducible repeat (first | apply Kd.R_alloc | apply Kd.R_drewN | apply Kd.R_drew)); exact HO_4.out) hg hat); have n1_ := Aside0.mk (hb); have n2_ := Aside0.mk ((show Kd.C k46 w37 (some ad220) y222.length y222 from by rw [Ny222.out]; exact Kd.C_take (m := (x7_4 : Int).toNat) ((Kd.R_reads' (Kd.R_after (ok := (fun _ => True)) (by (with_reducible repeat (first | apply Kd.R_alloc | apply Kd.R_drewN | apply Kd.R_drew)); exact HO_4.out) hg hat)).2.2) KL33.out)); have n3_ := Aside0.mk ((show Kd.C k46 w37 A36 y233.length y233 from by rw [Ny233.out, KA36.out]; exact Kd.C_drop (m := (x7_4 : Int).toNat) (c := co18) ((Kd.R_reads' (Kd.R_after (ok := (fun _ => True)) (by (with_reducible repeat (first | apply Kd.R_alloc | apply Kd.R_drewN | apply Kd.R_drew)); exact HO_4.out) hg hat)).2.2) KL36.out ((Kd.R_reads' (Kd.R_after (ok := (fun _ => True)) (by (with_reducible repeat (first | apply Kd.R_alloc | apply Kd.R_drewN | apply Kd.R_drew)); exact HO_4.out) hg hat)).2.1))); have n4_ := Aside0.mk (ho); clear HO_4; clear HB; clear HR225; clear HR236; clear HO232; have HO_4 := n0_; have HB := n1_; have HR225 := n2_; have HR236 := n3_; have HO239 := n4_; clear n0_ n1_ n2_ n3_ n4_; clear ho hb hg hat)))
                                                    go_roundg k4
                                                    case measure => have := HK1.out; have := HJ2.out; have := HK3.out; have := HK4.out; omega
                                                    case rel => exact ⟨(y237), (wrap64 (x5_1 + 1)), (by first | rfl | (simp; done) | (simp [*]; done)), H', ⟨by have := HK1.out; have := HJ2.out; have := HK3.out; have := HK4.out; omega⟩, ⟨by (with_reducible repeat (first | apply Kd.R_alloc | apply Kd.R_drewN | apply Kd.R_drew)); exact Kd.R_mono HO239.out (fun _ hk => trivial)⟩, ⟨by repeat (first | (with_reducible first | exact HB.out | apply below_alloc | apply pw_below_drewN | apply below_drew1) | exact HB.out)⟩⟩
                                                  · rw [if_neg c32] at H
                                                    exact absurd H (by simp)
                                                · rw [if_neg c29] at H
                                                  exact absurd H (by simp)
                                              · rw [if_neg c28] at H
                                                exact absurd H (by simp)
                                            · rw [if_neg c27] at H
                                              exact absurd H (by simp)
                                          · rw [if_neg c26] at H
                                            exact absurd H (by simp)
                                      · rw [if_neg c24] at H
                                        exact absurd H (by simp)
                                    · rw [if_neg c23] at H
                                      exact absurd H (by simp)
                                  · rw [if_neg c22] at H
                                    exact absurd H (by simp)
                                · rw [if_neg c21] at H
                                  exact absurd H (by simp)
                              · rw [if_neg c19] at H
                                have c19b0 : decide (0 < x7_4) = false := decide_eq_false c19
                                clear c19
                                by_cases c38 : 0 ≤ x7_4
                                · rw [if_pos c38] at H
                                  have c38b0 := eq_true c38
                                  have c38b1 : decide (0 ≤ x7_4) = true := decide_eq_true c38
                                  clear c38
                                  by_cases c39 : x7_4 ≤ (x4_1.length : Int)
                                  · rw [if_pos c39] at H
                                    have c39b0 := eq_true c39
                                    have c39b1 : decide (x7_4 ≤ (x4_1.length : Int)) = true := decide_eq_true c39
                                    clear c39
                                    obtain ⟨y240, hy240⟩ : ∃ y_ : List (S46), y_ = (x4_1.take (x7_4 : Int).toNat) := ⟨_, rfl⟩
                                    replace H : (if ([] : List (S46)).length + y240.length < 4398046511104 then ((some (([] : List (S46)) ++ y240 : List (S46))).bind fun y244 => (if 0 ≤ x5_1 then (if x5_1 < (l0.length : Int) then (if y244.length < 4398046511104 then ((some (y244 ++ [(⟨(rd_T46 l0 x5_1).f0, (rd_T46 l0 x5_1).f1⟩ : S46)] : List (S46))).bind fun y248 => ((some (x4_1.drop (x7_4 : Int).toNat : List (S46))).bind fun y251 => (if y248.length + y251.length < 4398046511104 then (soundingsref01_Make.l0 k4 l0 (y248 ++ y251) (wrap64 (x5_1 + 1))) else (none)))) else (none)) else (none)) else (none))) else (none)) = some (r1, r2) := by first | (rw [hy240]; with_reducible exact H) | (have H2_ := (Option.bind_some _ _).symm.trans H; rw [hy240]; with_reducible exact H2_) | (have H2_ := (Option.bind_some _ _).symm.trans H; with_reducible exact H2_) | with_reducible exact H | (rw [hy240]; exact H) | exact H
                                    have Ny240 := Aside0.mk hy240
                                    clear hy240
                                    by_cases c40 : ([] : List (S46)).length + y240.length < 4398046511104
                                    · rw [if_pos c40] at H
                                      have LMc40 := Aside0.mk c40
                                      clear c40
                                      obtain ⟨y244, hy244⟩ : ∃ y_ : List (S46), y_ = (([] : List (S46)) ++ y240) := ⟨_, rfl⟩
                                      replace H : (if 0 ≤ x5_1 then (if x5_1 < (l0.length : Int) then (if y244.length < 4398046511104 then ((some (y244 ++ [(⟨(rd_T46 l0 x5_1).f0, (rd_T46 l0 x5_1).f1⟩ : S46)] : List (S46))).bind fun y248 => ((some (x4_1.drop (x7_4 : Int).toNat : List (S46))).bind fun y251 => (if y248.length + y251.length < 4398046511104 then (soundingsref01_Make.l0 k4 l0 (y248 ++ y251) (wrap64 (x5_1 + 1))) else (none)))) else (none)) else (none)) else (none)) = some (r1, r2) := by first | (rw [hy244]; with_reducible exact H) | (have H2_ := (Option.bind_some _ _).symm.trans H; rw [hy244]; with_reducible exact H2_) | (have H2_ := (Option.bind_some _ _).symm.trans H; with_reducible exact H2_) | with_reducible exact H | (rw [hy244]; exact H) | exact H
                                      have Ny244 := Aside0.mk hy244
                                      clear hy244
                                      by_cases c41 : 0 ≤ x5_1
                                      · rw [if_pos c41] at H
                                        have c41b0 : decide (0 ≤ x5_1) = true := decide_eq_true c41
                                        clear c41
                                        by_cases c42 : x5_1 < (l0.length : Int)
                                        · rw [if_pos c42] at H
                                          have c42b0 : decide (x5_1 < (l0.length : Int)) = true := decide_eq_true c42
                                          clear c42
                                          by_cases c43 : y244.length < 4398046511104
                                          · rw [if_pos c43] at H
                                            have LMc43 := Aside0.mk c43
                                            clear c43
                                            obtain ⟨y248, hy248⟩ : ∃ y_ : List (S46), y_ = (y244 ++ [(⟨(rd_T46 l0 x5_1).f0, (rd_T46 l0 x5_1).f1⟩ : S46)]) := ⟨_, rfl⟩
                                            replace H : ((some (x4_1.drop (x7_4 : Int).toNat : List (S46))).bind fun y251 => (if y248.length + y251.length < 4398046511104 then (soundingsref01_Make.l0 k4 l0 (y248 ++ y251) (wrap64 (x5_1 + 1))) else (none))) = some (r1, r2) := by first | (rw [hy248]; with_reducible exact H) | (have H2_ := (Option.bind_some _ _).symm.trans H; rw [hy248]; with_reducible exact H2_) | (have H2_ := (Option.bind_some _ _).symm.trans H; with_reducible exact H2_) | with_reducible exact H | (rw [hy248]; exact H) | exact H
                                            have Ny248 := Aside0.mk hy248
                                            clear hy248
                                            have c44b0 := eq_true (of_decide_eq_true (by first | (with_reducible assumption) | assumption) : 0 ≤ x7_4)
                                            have c45b0 := eq_true (of_decide_eq_true (by first | (with_reducible assumption) | assumption) : x7_4 ≤ (x4_1.length : Int))
                                            obtain ⟨y251, hy251⟩ : ∃ y_ : List (S46), y_ = (x4_1.drop (x7_4 : Int).toNat) := ⟨_, rfl⟩
                                            replace H : (if y248.length + y251.length < 4398046511104 then (soundingsref01_Make.l0 k4 l0 (y248 ++ y251) (wrap64 (x5_1 + 1))) else (none)) = some (r1, r2) := by first | (rw [hy251]; with_reducible exact H) | (have H2_ := (Option.bind_some _ _).symm.trans H; rw [hy251]; with_reducible exact H2_) | (have H2_ := (Option.bind_some _ _).symm.trans H; with_reducible exact H2_) | with_reducible exact H | (rw [hy251]; exact H) | exact H
                                            have Ny251 := Aside0.mk hy251
                                            clear hy251
                                            by_cases c46 : y248.length + y251.length < 4398046511104
                                            · rw [if_pos c46] at H
                                              have LMc46 := Aside0.mk c46
                                              clear c46
                                              obtain ⟨y255, hy255⟩ : ∃ y_ : List (S46), y_ = (y248 ++ y251) := ⟨_, rfl⟩
                                              replace H : (soundingsref01_Make.l0 k4 l0 y255 (wrap64 (x5_1 + 1))) = some (r1, r2) := by first | (rw [hy255]; with_reducible exact H) | (have H2_ := (Option.bind_some _ _).symm.trans H; rw [hy255]; with_reducible exact H2_) | (have H2_ := (Option.bind_some _ _).symm.trans H; with_reducible exact H2_) | with_reducible exact H | (rw [hy255]; exact H) | exact H
                                              have Ny255 := Aside0.mk hy255
                                              clear hy255
                                              have H' := Aside0.mk H
                                              clear H
                                              have q47 : (x7_4 : Int) ≤ ((x4_1.length : Int) : Int) := of_decide_eq_true (by first | (with_reducible assumption) | assumption)
                                              obtain ⟨i047, hi047, _, hsz47, _⟩ := info_parts info46
                                              have hroom47 : x4_1.length ≤ co18 := (Kd.R_reads' HO_4.out).2.1
                                              have hC47 : Kd.C k46 _ Ao18 x4_1.length x4_1 := (Kd.R_reads' HO_4.out).2.2
                                              have hcut47 := cut_to (P := Tryd.prog) 36 46 .i64 Tryd.underlying36 hi047 Ao18 x4_1.length co18 x7_4 (of_decide_eq_true (by first | (with_reducible assumption) | assumption)) q47 hroom47
                                              have hr47 := Kd.C_take (m := (x7_4 : Int).toNat) hC47 (by omega)
                                              have hy47 : y240.length = (x7_4 : Int).toNat := (by rw [Ny240.out, List.length_take]; omega)
                                              rw [← Ny240.out] at hr47
                                              rw [← hy47] at hcut47
                                              have HR243 := Aside0.mk hr47
                                              have HC243 := Aside0.mk (show y240.length ≤ co18 from by omega)
                                              clear hr47 hC47 hroom47 hi047 hsz47
                                              have KY47 := Aside0.mk hy47
                                              clear hy47
                                              have KL47 := Aside0.mk (show (x7_4 : Int).toNat ≤ x4_1.length from by omega)
                                              replace q47 := eq_true q47
                                              go_wp2_with (first | ((with_reducible refine gate_builtin (b := .append) (xs := #[.tmp 73, .tmp 76]) rfl ?_); at_builtin; refine Kd.R_append_rows k46 (w0 := w) w.heap.size rfl (.tmp 73) (.tmp 76) 36 46 (.agg #[(.string ⟨#[]⟩), (.string ⟨#[]⟩)]) 32 rfl Tryd.underlying36 info46 rfl (by decide) (by omega) (.slice none 0 0) ([] : List (S46)) y240 _ _ _ (fun k_ => some k_ ≠ (.slice Ao18 x4_1.length co18 : Value).ownBlock) (fun _ => False) rfl rfl ?aO ?aR (fun _ _ h => h) (fun _ h => h.elim) ?aF ?aB ?aS ?aL ?_; (case aR => repeat (first | exact (by repeat (first | (with_reducible exact HR243.out) | (with_reducible refine Kd.C_alloc ?_ _) | (with_reducible refine Kd.C_drewN ?_ _) | (with_reducible refine Kd.C_drew ?_) | exact HR243.out)) | (with_reducible refine Kd.C_alloc ?_ _) | (with_reducible refine Kd.C_drewN ?_ _) | (with_reducible refine Kd.C_drew ?_))); (case aB => exact (by repeat (first | (with_reducible first | exact HB.out | apply below_alloc | apply pw_below_drewN | apply below_drew1) | exact HB.out))); (case aF => exact (fun k_ hk => Kd.fresh' (Kd.R_lt (by (with_reducible repeat (first | apply Kd.R_alloc | apply Kd.R_drewN | apply Kd.R_drew)); exact HO_4.out)) k_ hk)); (case aO => exact ((Kd.R_nil _ _ _ _ (fun k_ => some k_ ≠ (.slice Ao18 x4_1.length co18 : Value).ownBlock)))); (case aS => exact (below_size (by repeat (first | (with_reducible first | exact HB.out | apply below_alloc | apply pw_below_drewN | apply below_drew1) | exact HB.out)))); (case aL => have := LMc40.out; omega); intro v245 w48 ho hb hg hat; rw [← Ny244.out] at ho; have n0_ := Aside0.mk (Kd.R_after (Kd.R_apart_nil (by (with_reducible repeat (first | apply Kd.R_alloc | apply Kd.R_drewN | apply Kd.R_drew)); exact HO_4.out)) hg hat); have n1_ := Aside0.mk (hb); have n2_ := Aside0.mk ((show Kd.C k46 w48 Ao18 y240.length y240 from by rw [Ny240.out]; exact Kd.C_take (m := (x7_4 : Int).toNat) ((Kd.R_reads' (Kd.R_after (Kd.R_apart_nil (by (with_reducible repeat (first | apply Kd.R_alloc | apply Kd.R_drewN | apply Kd.R_drew)); exact HO_4.out)) hg hat)).2.2) KL47.out)); have n3_ := Aside0.mk (ho); clear HO_4; clear HB; clear HR243; have HO_4 := n0_; have HB := n1_; have HR243 := n2_; have HO246 := n3_; clear n0_ n1_ n2_ n3_; clear ho hb hg hat; have p247 : 0 ≤ (x5_1 : Int) := of_decide_eq_true (by first | (with_reducible assumption) | assumption); have q247 : x5_1 < (l0.length : Int) := of_decide_eq_true (by first | (with_reducible assumption) | assumption); obtain ⟨ad247, e247, hx247_0, hx247_1⟩ := at_T46 HR0.out x5_1 p247 q247; obtain rfl : ad219 = ad247 := (by injection e247); replace hx247_0 := (HB.out.cell (World.block_lt_of_cell? w _ hx247_0)).trans hx247_0; replace hx247_1 := (HB.out.cell (World.block_lt_of_cell? w _ hx247_1)).trans hx247_1; replace p247 := eq_true p247; replace q247 := eq_true q247) | ((with_reducible refine gate_builtin (b := .append) (xs := #[.tmp 78, .tmp 83]) rfl ?_); at_builtin; refine Kd.R_append k46 (w0 := w) w.heap.size rfl (.tmp 78) (.tmp 83) 36 46 (.agg #[(.string ⟨#[]⟩), (.string ⟨#[]⟩)]) 32 rfl Tryd.underlying36 info46 rfl (by decide) (by omega) v245 y244 (⟨(rd_T46 l0 x5_1).f0, (rd_T46 l0 x5_1).f1⟩ : S46) [.string ((rd_T46 l0 x5_1).f0), .string ((rd_T46 l0 x5_1).f1)] (fun k_ => some k_ ≠ (.slice Ao18 x4_1.length co18 : Value).ownBlock) (fun _ => False) rfl rfl ?aP (fun _ hk => hk.elim) ?aF ?aO ?aB ?aS ?aL ?_; (case aP => exact k46_mkM _ _ _ (⟨(rd_T46 l0 x5_1).f0, (rd_T46 l0 x5_1).f1⟩ : S46)); (case aB => exact (by repeat (first | (with_reducible first | exact HB.out | apply below_alloc | apply pw_below_drewN | apply below_drew1) | exact HB.out))); (case aF => exact (fun k_ hk => Kd.fresh' (Kd.R_lt (by (with_reducible repeat (first | apply Kd.R_alloc | apply Kd.R_drewN | apply Kd.R_drew)); exact HO_4.out)) k_ hk)); (case aO => exact (by (with_reducible repeat (first | apply Kd.R_alloc | apply Kd.R_drewN | apply Kd.R_drew)); exact HO246.out)); (case aS => exact (below_size (by repeat (first | (with_reducible first | exact HB.out | apply below_alloc | apply pw_below_drewN | apply below_drew1) | exact HB.out)))); (case aL => have := LMc43.out; omega); intro v249 w49 ho hb hg hat; rw [← Ny248.out] at ho; have n0_ := Aside0.mk (Kd.R_after (ok := (fun _ => True)) (by (with_reducible repeat (first | apply Kd.R_alloc | apply Kd.R_drewN | apply Kd.R_drew)); exact HO_4.out) hg hat); have n1_ := Aside0.mk (hb); have n2_ := Aside0.mk ((show Kd.C k46 w49 Ao18 y240.length y240 from by rw [Ny240.out]; exact Kd.C_take (m := (x7_4 : Int).toNat) ((Kd.R_reads' (Kd.R_after (ok := (fun _ => True)) (by (with_reducible repeat (first | apply Kd.R_alloc | apply Kd.R_drewN | apply Kd.R_drew)); exact HO_4.out) hg hat)).2.2) KL47.out)); have n3_ := Aside0.mk (ho); clear HO_4; clear HB; clear HR243; clear HO246; have HO_4 := n0_; have HB := n1_; have HR243 := n2_; have HO250 := n3_; clear n0_ n1_ n2_ n3_; clear ho hb hg hat; have q50 : (x7_4 : Int) ≤ ((x4_1.length : Int) : Int) := of_decide_eq_true (by first | (with_reducible assumption) | assumption); obtain ⟨i050, hi050, _, hsz50, _⟩ := info_parts info46; have hroom50 : x4_1.length ≤ co18 := (Kd.R_reads' HO_4.out).2.1; have hC50 : Kd.C k46 _ Ao18 x4_1.length x4_1 := (Kd.R_reads' HO_4.out).2.2; have q050 : (0 : Int) ≤ (x7_4 : Int) := of_decide_eq_true (by first | (with_reducible assumption) | assumption); have hcut50 := cut_from (P := Tryd.prog) 36 46 .i64 Tryd.underlying36 hi050 2 hsz50 Ao18 x4_1.length co18 x7_4 q050 q50; have hr50 := Kd.C_drop (m := (x7_4 : Int).toNat) (c := co18) hC50 (by omega) hroom50; obtain ⟨A50, hA50⟩ : ∃ A1, A1 = (if co18 = (x7_4 : Int).toNat then Ao18 else (Ao18 : Option Addr).map (·.add ((x7_4 : Int).toNat * 2))) := ⟨_, rfl⟩; obtain ⟨c50, hc50⟩ : ∃ c1, c1 = co18 - (x7_4 : Int).toNat := ⟨_, rfl⟩; have hy50 : y251.length = x4_1.length - (x7_4 : Int).toNat := (by rw [Ny251.out, List.length_drop] <;> omega); rw [show (x4_1).drop (x7_4 : Int).toNat = y251 from Ny251.out.symm] at hr50; replace hr50 : Kd.C k46 _ A50 y251.length y251 := (by rw [hA50]; exact hr50); rw [← hy50, ← hA50, ← hc50] at hcut50; have HR254 := Aside0.mk hr50; have HC254 := Aside0.mk (show y251.length ≤ c50 from by rw [hy50, hc50]; exact Nat.sub_le_sub_right hroom50 _); clear hr50 hC50 hroom50 hi050 hsz50 hc50; have KY50 := Aside0.mk hy50; have KA50 := Aside0.mk hA50; clear hy50 hA50; have KL50 := Aside0.mk (show (x7_4 : Int).toNat ≤ x4_1.length from by omega); replace q50 := eq_true q50) | ((with_reducible refine gate_builtin (b := .append) (xs := #[.tmp 85, .tmp 88]) rfl ?_); at_builtin; refine Kd.R_append_rows k46 (w0 := w) w.heap.size rfl (.tmp 85) (.tmp 88) 36 46 (.agg #[(.string ⟨#[]⟩), (.string ⟨#[]⟩)]) 32 rfl Tryd.underlying36 info46 rfl (by decide) (by omega) v249 y248 y251 _ _ _ (fun k_ => some k_ ≠ (.slice Ao18 x4_1.length co18 : Value).ownBlock) (fun _ => False) rfl rfl ?aO ?aR (fun _ _ h => h) (fun _ h => h.elim) ?aF ?aB ?aS ?aL ?_; (case aR => repeat (first | exact (by repeat (first | (with_reducible exact HR254.out) | (with_reducible refine Kd.C_alloc ?_ _) | (with_reducible refine Kd.C_drewN ?_ _) | (with_reducible refine Kd.C_drew ?_) | exact HR254.out)) | (with_reducible refine Kd.C_alloc ?_ _) | (with_reducible refine Kd.C_drewN ?_ _) | (with_reducible refine Kd.C_drew ?_))); (case aB => exact (by repeat (first | (with_reducible first | exact HB.out | apply below_alloc | apply pw_below_drewN | apply below_drew1) | exact HB.out))); (case aF => exact (fun k_ hk => Kd.fresh' (Kd.R_lt (by (with_reducible repeat (first | apply Kd.R_alloc | apply Kd.R_drewN | apply Kd.R_drew)); exact HO_4.out)) k_ hk)); (case aO => exact (by (with_reducible repeat (first | apply Kd.R_alloc | apply Kd.R_drewN | apply Kd.R_drew)); exact HO250.out)); (case aS => exact (below_size (by repeat (first | (with_reducible first | exact HB.out | apply below_alloc | apply pw_below_drewN | apply below_drew1) | exact HB.out)))); (case aL => have := LMc46.out; omega); intro v256 w51 ho hb hg hat; rw [← Ny255.out] at ho; have n0_ := Aside0.mk (Kd.R_after (ok := (fun _ => True)) (by (with_reducible repeat (first | apply Kd.R_alloc | apply Kd.R_drewN | apply Kd.R_drew)); exact HO_4.out) hg hat); have n1_ := Aside0.mk (hb); have n2_ := Aside0.mk ((show Kd.C k46 w51 Ao18 y240.length y240 from by rw [Ny240.out]; exact Kd.C_take (m := (x7_4 : Int).toNat) ((Kd.R_reads' (Kd.R_after (ok := (fun _ => True)) (by (with_reducible repeat (first | apply Kd.R_alloc | apply Kd.R_drewN | apply Kd.R_drew)); exact HO_4.out) hg hat)).2.2) KL47.out)); have n3_ := Aside0.mk ((show Kd.C k46 w51 A50 y251.length y251 from by rw [Ny251.out, KA50.out]; exact Kd.C_drop (m := (x7_4 : Int).toNat) (c := co18) ((Kd.R_reads' (Kd.R_after (ok := (fun _ => True)) (by (with_reducible repeat (first | apply Kd.R_alloc | apply Kd.R_drewN | apply Kd.R_drew)); exact HO_4.out) hg hat)).2.2) KL50.out ((Kd.R_reads' (Kd.R_after (ok := (fun _ => True)) (by (with_reducible repeat (first | apply Kd.R_alloc | apply Kd.R_drewN | apply Kd.R_drew)); exact HO_4.out) hg hat)).2.1))); have n4_ := Aside0.mk (ho); clear HO_4; clear HB; clear HR243; clear HR254; clear HO250; have HO_4 := n0_; have HB := n1_; have HR243 := n2_; have HR254 := n3_; have HO257 := n4_; clear n0_ n1_ n2_ n3_ n4_; clear ho hb hg hat))
                                              repeat (go_quiet (first | ((with_reducible refine gate_builtin (b := .append) (xs := #[.tmp 73, .tmp 76]) rfl ?_); at_builtin; refine Kd.R_append_rows k46 (w0 := w) w.heap.size rfl (.tmp 73) (.tmp 76) 36 46 (.agg #[(.string ⟨#[]⟩), (.string ⟨#[]⟩)]) 32 rfl Tryd.underlying36 info46 rfl (by decide) (by omega) (.slice none 0 0) ([] : List (S46)) y240 _ _ _ (fun k_ => some k_ ≠ (.slice Ao18 x4_1.length co18 : Value).ownBlock) (fun _ => False) rfl rfl ?aO ?aR (fun _ _ h => h) (fun _ h => h.elim) ?aF ?aB ?aS ?aL ?_; (case aR => repeat (first | exact (by repeat (first | (with_reducible exact HR243.out) | (with_reducible refine Kd.C_alloc ?_ _) | (with_reducible refine Kd.C_drewN ?_ _) | (with_reducible refine Kd.C_drew ?_) | exact HR243.out)) | (with_reducible refine Kd.C_alloc ?_ _) | (with_reducible refine Kd.C_drewN ?_ _) | (with_reducible refine Kd.C_drew ?_))); (case aB => exact (by repeat (first | (with_reducible first | exact HB.out | apply below_alloc | apply pw_below_drewN | apply below_drew1) | exact HB.out))); (case aF => exact (fun k_ hk => Kd.fresh' (Kd.R_lt (by (with_reducible repeat (first | apply Kd.R_alloc | apply Kd.R_drewN | apply Kd.R_drew)); exact HO_4.out)) k_ hk)); (case aO => exact ((Kd.R_nil _ _ _ _ (fun k_ => some k_ ≠ (.slice Ao18 x4_1.length co18 : Value).ownBlock)))); (case aS => exact (below_size (by repeat (first | (with_reducible first | exact HB.out | apply below_alloc | apply pw_below_drewN | apply below_drew1) | exact HB.out)))); (case aL => have := LMc40.out; omega); intro v245 w48 ho hb hg hat; rw [← Ny244.out] at ho; have n0_ := Aside0.mk (Kd.R_after (Kd.R_apart_nil (by (with_reducible repeat (first | apply Kd.R_alloc | apply Kd.R_drewN | apply Kd.R_drew)); exact HO_4.out)) hg hat); have n1_ := Aside0.mk (hb); have n2_ := Aside0.mk ((show Kd.C k46 w48 Ao18 y240.length y240 from by rw [Ny240.out]; exact Kd.C_take (m := (x7_4 : Int).toNat) ((Kd.R_reads' (Kd.R_after (Kd.R_apart_nil (by (with_reducible repeat (first | apply Kd.R_alloc | apply Kd.R_drewN | apply Kd.R_drew)); exact HO_4.out)) hg hat)).2.2) KL47.out)); have n3_ := Aside0.mk (ho); clear HO_4; clear HB; clear HR243; have HO_4 := n0_; have HB := n1_; have HR243 := n2_; have HO246 := n3_; clear n0_ n1_ n2_ n3_; clear ho hb hg hat; have p247 : 0 ≤ (x5_1 : Int) := of_decide_eq_true (by first | (with_reducible assumption) | assumption); have q247 : x5_1 < (l0.length : Int) := of_decide_eq_true (by first | (with_reducible assumption) | assumption); obtain ⟨ad247, e247, hx247_0, hx247_1⟩ := at_T46 HR0.out x5_1 p247 q247; obtain rfl : ad219 = ad247 := (by injection e247); replace hx247_0 := (HB.out.cell (World.block_lt_of_cell? w _ hx247_0)).trans hx247_0; replace hx247_1 := (HB.out.cell (World.block_lt_of_cell? w _ hx247_1)).trans hx247_1; replace p247 := eq_true p247; replace q247 := eq_true q247) | ((with_reducible refine gate_builtin (b := .append) (xs := #[.tmp 78, .tmp 83]) rfl ?_); at_builtin; refine Kd.R_append k46 (w0 := w) w.heap.size rfl (.tmp 78) (.tmp 83) 36 46 (.agg #[(.string ⟨#[]⟩), (.string ⟨#[]⟩)]) 32 rfl Tryd.underlying36 info46 rfl (by decide) (by omega) v245 y244 (⟨(rd_T46 l0 x5_1).f0, (rd_T46 l0 x5_1).f1⟩ : S46) [.string ((rd_T46 l0 x5_1).f0), .string ((rd_T46 l0 x5_1).f1)] (fun k_ => some k_ ≠ (.slice Ao18 x4_1.length co18 : Value).ownBlock) (fun _ => False) rfl rfl ?aP (fun _ hk => hk.elim) ?aF ?aO ?aB ?aS ?aL ?_; (case aP => exact k46_mkM _ _ _ (⟨(rd_T46 l0 x5_1).f0, (rd_T46 l0 x5_1).f1⟩ : S46)); (case aB => exact (by repeat (first | (with_reducible first | exact HB.out | apply below_alloc | apply pw_below_drewN | apply below_drew1) | exact HB.out))); (case aF => exact (fun k_ hk => Kd.fresh' (Kd.R_lt (by (with_reducible repeat (first | apply Kd.R_alloc | apply Kd.R_drewN | apply Kd.R_drew)); exact HO_4.out)) k_ hk)); (case aO => exact (by (with_reducible repeat (first | apply Kd.R_alloc | apply Kd.R_drewN | apply Kd.R_drew)); exact HO246.out)); (case aS => exact (below_size (by repeat (first | (with_reducible first | exact HB.out | apply below_alloc | apply pw_below_drewN | apply below_drew1) | exact HB.out)))); (case aL => have := LMc43.out; omega); intro v249 w49 ho hb hg hat; rw [← Ny248.out] at ho; have n0_ := Aside0.mk (Kd.R_after (ok := (fun _ => True)) (by (with_reducible repeat (first | apply Kd.R_alloc | apply Kd.R_drewN | apply Kd.R_drew)); exact HO_4.out) hg hat); have n1_ := Aside0.mk (hb); have n2_ := Aside0.mk ((show Kd.C k46 w49 Ao18 y240.length y240 from by rw [Ny240.out]; exact Kd.C_take (m := (x7_4 : Int).toNat) ((Kd.R_reads' (Kd.R_after (ok := (fun _ => True)) (by (with_reducible repeat (first | apply Kd.R_alloc | apply Kd.R_drewN | apply Kd.R_drew)); exact HO_4.out) hg hat)).2.2) KL47.out)); have n3_ := Aside0.mk (ho); clear HO_4; clear HB; clear HR243; clear HO246; have HO_4 := n0_; have HB := n1_; have HR243 := n2_; have HO250 := n3_; clear n0_ n1_ n2_ n3_; clear ho hb hg hat; have q50 : (x7_4 : Int) ≤ ((x4_1.length : Int) : Int) := of_decide_eq_true (by first | (with_reducible assumption) | assumption); obtain ⟨i050, hi050, _, hsz50, _⟩ := info_parts info46; have hroom50 : x4_1.length ≤ co18 := (Kd.R_reads' HO_4.out).2.1; have hC50 : Kd.C k46 _ Ao18 x4_1.length x4_1 := (Kd.R_reads' HO_4.out).2.2; have q050 : (0 : Int) ≤ (x7_4 : Int) := of_decide_eq_true (by first | (with_reducible assumption) | assumption); have hcut50 := cut_from (P := Tryd.prog) 36 46 .i64 Tryd.underlying36 hi050 2 hsz50 Ao18 x4_1.length co18 x7_4 q050 q50; have hr50 := Kd.C_drop (m := (x7_4 : Int).toNat) (c := co18) hC50 (by omega) hroom50; obtain ⟨A50, hA50⟩ : ∃ A1, A1 = (if co18 = (x7_4 : Int).toNat then Ao18 else (Ao18 : Option Addr).map (·.add ((x7_4 : Int).toNat * 2))) := ⟨_, rfl⟩; obtain ⟨c50, hc50⟩ : ∃ c1, c1 = co18 - (x7_4 : Int).toNat := ⟨_, rfl⟩; have hy50 : y251.length = x4_1.length - (x7_4 : Int).toNat := (by rw [Ny251.out, List.length_drop] <;> omega); rw [show (x4_1).drop (x7_4 : Int).toNat = y251 from Ny251.out.symm] at hr50; replace hr50 : Kd.C k46 _ A50 y251.length y251 := (by rw [hA50]; exact hr50); rw [← hy50, ← hA50, ← hc50] at hcut50; have HR254 := Aside0.mk hr50; have HC254 := Aside0.mk (show y251.length ≤ c50 from by rw [hy50, hc50]; exact Nat.sub_le_sub_right hroom50 _); clear hr50 hC50 hroom50 hi050 hsz50 hc50; have KY50 := Aside0.mk hy50; have KA50 := Aside0.mk hA50; clear hy50 hA50; have KL50 := Aside0.mk (show (x7_4 : Int).toNat ≤ x4_1.length from by omega); replace q50 := eq_true q50) | ((with_reducible refine gate_builtin (b := .append) (xs := #[.tmp 85, .tmp 88]) rfl ?_); at_builtin; refine Kd.R_append_rows k46 (w0 := w) w.heap.size rfl (.tmp 85) (.tmp 88) 36 46 (.agg #[(.string ⟨#[]⟩), (.string ⟨#[]⟩)]) 32 rfl Tryd.underlying36 info46 rfl (by decide) (by omega) v249 y248 y251 _ _ _ (fun k_ => some k_ ≠ (.slice Ao18 x4_1.length co18 : Value).ownBlock) (fun _ => False) rfl rfl ?aO ?aR (fun _ _ h => h) (fun _ h => h.elim) ?aF ?aB ?aS ?aL ?_; (case aR => repeat (first | exact (by repeat (first | (with_reducible exact HR254.out) | (with_reducible refine Kd.C_alloc ?_ _) | (with_reducible refine Kd.C_drewN ?_ _) | (with_reducible refine Kd.C_drew ?_) | exact HR254.out)) | (with_reducible refine Kd.C_alloc ?_ _) | (with_reducible refine Kd.C_drewN ?_ _) | (with_reducible refine Kd.C_drew ?_))); (case aB => exact (by repeat (first | (with_reducible first | exact HB.out | apply below_alloc | apply pw_below_drewN | apply below_drew1) | exact HB.out))); (case aF => exact (fun k_ hk => Kd.fresh' (Kd.R_lt (by (with_reducible repeat (first | apply Kd.R_alloc | apply Kd.R_drewN | apply Kd.R_drew)); exact HO_4.out)) k_ hk)); (case aO => exact (by (with_reducible repeat (first | apply Kd.R_alloc | apply Kd.R_drewN | apply Kd.R_drew)); exact HO250.out)); (case aS => exact (below_size (by repeat (first | (with_reducible first | exact HB.out | apply below_alloc | apply pw_below_drewN | apply below_drew1) | exact HB.out)))); (case aL => have := LMc46.out; omega); intro v256 w51 ho hb hg hat; rw [← Ny255.out] at ho; have n0_ := Aside0.mk (Kd.R_after (ok := (fun _ => True)) (by (with_reducible repeat (first | apply Kd.R_alloc | apply Kd.R_drewN | apply Kd.R_drew)); exact HO_4.out) hg hat); have n1_ := Aside0.mk (hb); have n2_ := Aside0.mk ((show Kd.C k46 w51 Ao18 y240.length y240 from by rw [Ny240.out]; exact Kd.C_take (m := (x7_4 : Int).toNat) ((Kd.R_reads' (Kd.R_after (ok := (fun _ => True)) (by (with_reducible repeat (first | apply Kd.R_alloc | apply Kd.R_drewN | apply Kd.R_drew)); exact HO_4.out) hg hat)).2.2) KL47.out)); have n3_ := Aside0.mk ((show Kd.C k46 w51 A50 y251.length y251 from by rw [Ny251.out, KA50.out]; exact Kd.C_drop (m := (x7_4 : Int).toNat) (c := co18) ((Kd.R_reads' (Kd.R_after (ok := (fun _ => True)) (by (with_reducible repeat (first | apply Kd.R_alloc | apply Kd.R_drewN | apply Kd.R_drew)); exact HO_4.out) hg hat)).2.2) KL50.out ((Kd.R_reads' (Kd.R_after (ok := (fun _ => True)) (by (with_reducible repeat (first | apply Kd.R_alloc | apply Kd.R_drewN | apply Kd.R_drew)); exact HO_4.out) hg hat)).2.1))); have n4_ := Aside0.mk (ho); clear HO_4; clear HB; clear HR243; clear HR254; clear HO250; have HO_4 := n0_; have HB := n1_; have HR243 := n2_; have HR254 := n3_; have HO257 := n4_; clear n0_ n1_ n2_ n3_ n4_; clear ho hb hg hat)); try go_wp2_with (first | ((with_reducible refine gate_builtin (b := .append) (xs := #[.tmp 73, .tmp 76]) rfl ?_); at_builtin; refine Kd.R_append_rows k46 (w0 := w) w.heap.size rfl (.tmp 73) (.tmp 76) 36 46 (.agg #[(.string ⟨#[]⟩), (.string ⟨#[]⟩)]) 32 rfl Tryd.underlying36 info46 rfl (by decide) (by omega) (.slice none 0 0) ([] : List (S46)) y240 _ _ _ (fun k_ => some k_ ≠ (.slice Ao18 x4_1.length co18 : Value).ownBlock) (fun _ => False) rfl rfl ?aO ?aR (fun _ _ h => h) (fun _ h => h.elim) ?aF ?aB ?aS ?aL ?_; (case aR => repeat (first | exact (by repeat (first | (with_reducible exact HR243.out) | (with_reducible refine Kd.C_alloc ?_ _) | (with_reducible refine Kd.C_drewN ?_ _) | (with_reducible refine Kd.C_drew ?_) | exact HR243.out)) | (with_reducible refine Kd.C_alloc ?_ _) | (with_reducible refine Kd.C_drewN ?_ _) | (with_reducible refine Kd.C_drew ?_))); (case aB => exact (by repeat (first | (with_reducible first | exact HB.out | apply below_alloc | apply pw_below_drewN | apply below_drew1) | exact HB.out))); (case aF => exact (fun k_ hk => Kd.fresh' (Kd.R_lt (by (with_reducible repeat (first | apply Kd.R_alloc | apply Kd.R_drewN | apply Kd.R_drew)); exact HO_4.out)) k_ hk)); (case aO => exact ((Kd.R_nil _ _ _ _ (fun k_ => some k_ ≠ (.slice Ao18 x4_1.length co18 : Value).ownBlock)))); (case aS => exact (below_size (by repeat (first | (with_reducible first | exact HB.out | apply below_alloc | apply pw_below_drewN | apply below_drew1) | exact HB.out)))); (case aL => have := LMc40.out; omega); intro v245 w48 ho hb hg hat; rw [← Ny244.out] at ho; have n0_ := Aside0.mk (Kd.R_after (Kd.R_apart_nil (by (with_reducible repeat (first | apply Kd.R_alloc | apply Kd.R_drewN | apply Kd.R_drew)); exact HO_4.out)) hg hat); have n1_ := Aside0.mk (hb); have n2_ := Aside0.mk ((show Kd.C k46 w48 Ao18 y240.length y240 from by rw [Ny240.out]; exact Kd.C_take (m := (x7_4 : Int).toNat) ((Kd.R_reads' (Kd.R_after (Kd.R_apart_nil (by (with_reducible repeat (first | apply Kd.R_alloc | apply Kd.R_drewN | apply Kd.R_drew)); exact HO_4.out)) hg hat)).2.2) KL47.out)); have n3_ := Aside0.mk (ho); clear HO_4; clear HB; clear HR243; have HO_4 := n0_; have HB := n1_; have HR243 := n2_; have HO246 := n3_; clear n0_ n1_ n2_ n3_; clear ho hb hg hat; have p247 : 0 ≤ (x5_1 : Int) := of_decide_eq_true (by first | (with_reducible assumption) | assumption); have q247 : x5_1 < (l0.length : Int) := of_decide_eq_true (by first | (with_reducible assumption) | assumption); obtain ⟨ad247, e247, hx247_0, hx247_1⟩ := at_T46 HR0.out x5_1 p247 q247; obtain rfl : ad219 = ad247 := (by injection e247); replace hx247_0 := (HB.out.cell (World.block_lt_of_cell? w _ hx247_0)).trans hx247_0; replace hx247_1 := (HB.out.cell (World.block_lt_of_cell? w _ hx247_1)).trans hx247_1; replace p247 := eq_true p247; replace q247 := eq_true q247) | ((with_reducible refine gate_builtin (b := .append) (xs := #[.tmp 78, .tmp 83]) rfl ?_); at_builtin; refine Kd.R_append k46 (w0 := w) w.heap.size rfl (.tmp 78) (.tmp 83) 36 46 (.agg #[(.string ⟨#[]⟩), (.string ⟨#[]⟩)]) 32 rfl Tryd.underlying36 info46 rfl (by decide) (by omega) v245 y244 (⟨(rd_T46 l0 x5_1).f0, (rd_T46 l0 x5_1).f1⟩ : S46) [.string ((rd_T46 l0 x5_1).f0), .string ((rd_T46 l0 x5_1).f1)] (fun k_ => some k_ ≠ (.slice Ao18 x4_1.length co18 : Value).ownBlock) (fun _ => False) rfl rfl ?aP (fun _ hk => hk.elim) ?aF ?aO ?aB ?aS ?aL ?_; (case aP => exact k46_mkM _ _ _ (⟨(rd_T46 l0 x5_1).f0, (rd_T46 l0 x5_1).f1⟩ : S46)); (case aB => exact (by repeat (first | (with_reducible first | exact HB.out | apply below_alloc | apply pw_below_drewN | apply below_drew1) | exact HB.out))); (case aF => exact (fun k_ hk => Kd.fresh' (Kd.R_lt (by (with_reducible repeat (first | apply Kd.R_alloc | apply Kd.R_drewN | apply Kd.R_drew)); exact HO_4.out)) k_ hk)); (case aO => exact (by (with_reducible repeat (first | apply Kd.R_alloc | apply Kd.R_drewN | apply Kd.R_drew)); exact HO246.out)); (case aS => exact (below_size (by repeat (first | (with_reducible first | exact HB.out | apply below_alloc | apply pw_below_drewN | apply below_drew1) | exact HB.out)))); (case aL => have := LMc43.out; omega); intro v249 w49 ho hb hg hat; rw [← Ny248.out] at ho; have n0_ := Aside0.mk (Kd.R_after (ok := (fun _ => True)) (by (with_reducible repeat (first | apply Kd.R_alloc | apply Kd.R_drewN | apply Kd.R_drew)); exact HO_4.out) hg hat); have n1_ := Aside0.mk (hb); have n2_ := Aside0.mk ((show Kd.C k46 w49 Ao18 y240.length y240 from by rw [Ny240.out]; exact Kd.C_take (m := (x7_4 : Int).toNat) ((Kd.R_reads' (Kd.R_after (ok := (fun _ => True)) (by (with_reducible repeat (first | apply Kd.R_alloc | apply Kd.R_drewN | apply Kd.R_drew)); exact HO_4.out) hg hat)).2.2) KL47.out)); have n3_ := Aside0.mk (ho); clear HO_4; clear HB; clear HR243; clear HO246; have HO_4 := n0_; have HB := n1_; have HR243 := n2_; have HO250 := n3_; clear n0_ n1_ n2_ n3_; clear ho hb hg hat; have q50 : (x7_4 : Int) ≤ ((x4_1.length : Int) : Int) := of_decide_eq_true (by first | (with_reducible assumption) | assumption); obtain ⟨i050, hi050, _, hsz50, _⟩ := info_parts info46; have hroom50 : x4_1.length ≤ co18 := (Kd.R_reads' HO_4.out).2.1; have hC50 : Kd.C k46 _ Ao18 x4_1.length x4_1 := (Kd.R_reads' HO_4.out).2.2; have q050 : (0 : Int) ≤ (x7_4 : Int) := of_decide_eq_true (by first | (with_reducible assumption) | assumption); have hcut50 := cut_from (P := Tryd.prog) 36 46 .i64 Tryd.underlying36 hi050 2 hsz50 Ao18 x4_1.length co18 x7_4 q050 q50; have hr50 := Kd.C_drop (m := (x7_4 : Int).toNat) (c := co18) hC50 (by omega) hroom50; obtain ⟨A50, hA50⟩ : ∃ A1, A1 = (if co18 = (x7_4 : Int).toNat then Ao18 else (Ao18 : Option Addr).map (·.add ((x7_4 : Int).toNat * 2))) := ⟨_, rfl⟩; obtain ⟨c50, hc50⟩ : ∃ c1, c1 = co18 - (x7_4 : Int).toNat := ⟨_, rfl⟩; have hy50 : y251.length = x4_1.length - (x7_4 : Int).toNat := (by rw [Ny251.out, List.length_drop] <;> omega); rw [show (x4_1).drop (x7_4 : Int).toNat = y251 from Ny251.out.symm] at hr50; replace hr50 : Kd.C k46 _ A50 y251.length y251 := (by rw [hA50]; exact hr50); rw [← hy50, ← hA50, ← hc50] at hcut50; have HR254 := Aside0.mk hr50; have HC254 := Aside0.mk (show y251.length ≤ c50 from by rw [hy50, hc50]; exact Nat.sub_le_sub_right hroom50 _); clear hr50 hC50 hroom50 hi050 hsz50 hc50; have KY50 := Aside0.mk hy50; have KA50 := Aside0.mk hA50; clear hy50 hA50; have KL50 := Aside0.mk (show (x7_4 : Int).toNat ≤ x4_1.length from by omega); replace q50 := eq_true q50) | ((with_reducible refine gate_builtin (b := .append) (xs := #[.tmp 85, .tmp 88]) rfl ?_); at_builtin; refine Kd.R_append_rows k46 (w0 := w) w.heap.size rfl (.tmp 85) (.tmp 88) 36 46 (.agg #[(.string ⟨#[]⟩), (.string ⟨#[]⟩)]) 32 rfl Tryd.underlying36 info46 rfl (by decide) (by omega) v249 y248 y251 _ _ _ (fun k_ => some k_ ≠ (.slice Ao18 x4_1.length co18 : Value).ownBlock) (fun _ => False) rfl rfl ?aO ?aR (fun _ _ h => h) (fun _ h => h.elim) ?aF ?aB ?aS ?aL ?_; (case aR => repeat (first | exact (by repeat (first | (with_reducible exact HR254.out) | (with_reducible refine Kd.C_alloc ?_ _) | (with_reducible refine Kd.C_drewN ?_ _) | (with_reducible refine Kd.C_drew ?_) | exact HR254.out)) | (with_reducible refine Kd.C_alloc ?_ _) | (with_reducible refine Kd.C_drewN ?_ _) | (with_reducible refine Kd.C_drew ?_))); (case aB => exact (by repeat (first | (with_reducible first | exact HB.out | apply below_alloc | apply pw_below_drewN | apply below_drew1) | exact HB.out))); (case aF => exact (fun k_ hk => Kd.fresh' (Kd.R_lt (by (with_reducible repeat (first | apply Kd.R_alloc | apply Kd.R_drewN | apply Kd.R_drew)); exact HO_4.out)) k_ hk)); (case aO => exact (by (with_reducible repeat (first | apply Kd.R_alloc | apply Kd.R_drewN | apply Kd.R_drew)); exact HO250.out)); (case aS => exact (below_size (by repeat (first | (with_reducible first | exact HB.out | apply below_alloc | apply pw_below_drewN | apply below_drew1) | exact HB.out)))); (case aL => have := LMc46.out; omega); intro v256 w51 ho hb hg hat; rw [← Ny255.out] at ho; have n0_ := Aside0.mk (Kd.R_after (ok := (fun _ => True)) (by (with_reducible repeat (first | apply Kd.R_alloc | apply Kd.R_drewN | apply Kd.R_drew)); exact HO_4.out) hg hat); have n1_ := Aside0.mk (hb); have n2_ := Aside0.mk ((show Kd.C k46 w51 Ao18 y240.length y240 from by rw [Ny240.out]; exact Kd.C_take (m := (x7_4 : Int).toNat) ((Kd.R_reads' (Kd.R_after (ok := (fun _ => True)) (by (with_reducible repeat (first | apply Kd.R_alloc | apply Kd.R_drewN | apply Kd.R_drew)); exact HO_4.out) hg hat)).2.2) KL47.out)); have n3_ := Aside0.mk ((show Kd.C k46 w51 A50 y251.length y251 from by rw [Ny251.out, KA50.out]; exact Kd.C_drop (m := (x7_4 : Int).toNat) (c := co18) ((Kd.R_reads' (Kd.R_after (ok := (fun _ => True)) (by (with_reducible repeat (first | apply Kd.R_alloc | apply Kd.R_drewN | apply Kd.R_drew)); exact HO_4.out) hg hat)).2.2) KL50.out ((Kd.R_reads' (Kd.R_after (ok := (fun _ => True)) (by (with_reducible repeat (first | apply Kd.R_alloc | apply Kd.R_drewN | apply Kd.R_drew)); exact HO_4.out) hg hat)).2.1))); have n4_ := Aside0.mk (ho); clear HO_4; clear HB; clear HR243; clear HR254; clear HO250; have HO_4 := n0_; have HB := n1_; have HR243 := n2_; have HR254 := n3_; have HO257 := n4_; clear n0_ n1_ n2_ n3_ n4_; clear ho hb hg hat)))
                                              go_roundg k4
                                              case measure => have := HK1.out; have := HJ2.out; have := HK3.out; have := HK4.out; omega
                                              case rel => exact ⟨(y255), (wrap64 (x5_1 + 1)), (by first | rfl | (simp; done) | (simp [*]; done)), H', ⟨by have := HK1.out; have := HJ2.out; have := HK3.out; have := HK4.out; omega⟩, ⟨by (with_reducible repeat (first | apply Kd.R_alloc | apply Kd.R_drewN | apply Kd.R_drew)); exact Kd.R_mono HO257.out (fun _ hk => trivial)⟩, ⟨by repeat (first | (with_reducible first | exact HB.out | apply below_alloc | apply pw_below_drewN | apply below_drew1) | exact HB.out)⟩⟩
                                            · rw [if_neg c46] at H
                                              exact absurd H (by simp)
                                          · rw [if_neg c43] at H
                                            exact absurd H (by simp)
                                        · rw [if_neg c42] at H
                                          exact absurd H (by simp)
                                      · rw [if_neg c41] at H
                                        exact absurd H (by simp)
                                    · rw [if_neg c40] at H
                                      exact absurd H (by simp)
                                  · rw [if_neg c39] at H
                                    exact absurd H (by simp)
                                · rw [if_neg c38] at H
                                  exact absurd H (by simp)
                      · rw [if_neg c16] at H
                        exact absurd H (by simp)
                    · rw [if_neg c15] at H
                      exact absurd H (by simp)
      · rw [if_neg c2] at H
        have c2b0 : decide (x5_1 < (l0.length : Int)) = false := decide_eq_false c2
        clear c2
        by_cases c52 : (x4_1.length : Int) > 16
        · rw [if_pos c52] at H
          have c52b0 : decide (16 < (x4_1.length : Int)) = true := decide_eq_true c52
          have c52b1 : decide (16 < x4_1.length) = true := decide_eq_true (by omega)
          clear c52
          simp only [Option.some.injEq, Prod.mk.injEq] at H
          obtain ⟨rfl, rfl⟩ := H
          obtain ⟨Ao53, co53, eo53⟩ := Kd.R_slice HO_4.out
          subst eo53
          go_wp2
          repeat (go_quiet (fail); try go_wp2)
          go_ret2
          exact ⟨_, by first | rfl | (simp [errW_none, errW_some] <;> rfl) | (simp [*, errW_none, errW_some] <;> rfl), by first | exact Kd.R_nil _ _ _ _ _ | exact Kd.N_nil _ _ _ _ _ | exact Kd.V_nil _ _ _ _ _ | exact Kd.Q_nil _ _ _ _ _ | exact Kd.S_nil _ _ _ _ _, by repeat (first | (with_reducible first | exact HB.out | apply below_alloc | apply pw_below_drewN | apply below_drew1) | exact HB.out)⟩
        · rw [if_neg c52] at H
          have c52b0 : decide (16 < (x4_1.length : Int)) = false := decide_eq_false c52
          have c52b1 : decide (16 < x4_1.length) = false := decide_eq_false (by omega)
          clear c52
          simp only [Option.some.injEq, Prod.mk.injEq] at H
          obtain ⟨rfl, rfl⟩ := H
          obtain ⟨Ao54, co54, eo54⟩ := Kd.R_slice HO_4.out
          subst eo54
          go_wp2
          repeat (go_quiet (fail); try go_wp2)
          go_ret2
          exact ⟨_, by first | rfl | (simp [errW_none, errW_some] <;> rfl) | (simp [*, errW_none, errW_some] <;> rfl), by (with_reducible repeat (first | apply Kd.R_alloc | apply Kd.R_drewN | apply Kd.R_drew)); exact HO_4.out, by repeat (first | (with_reducible first | exact HB.out | apply below_alloc | apply pw_below_drewN | apply below_drew1) | exact HB.out)⟩

end Go.Proofs.YtfbockgjhbfidaaDoor.Pr
