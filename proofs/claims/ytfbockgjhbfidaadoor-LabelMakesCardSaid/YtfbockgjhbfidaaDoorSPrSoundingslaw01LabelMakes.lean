-- Written by a program of this session (wip/hook.py) out of the translation. Not trusted: Lean checks it.
import Derived.Test.YtfbockgjhbfidaaDoorPr0
import Derived.Test.YtfbockgjhbfidaaDoorGLaid
import Derived.Test.YtfbockgjhbfidaaDoorGUMk
import Derived.Test.YtfbockgjhbfidaaDoorSLbURRight
import Derived.Test.YtfbockgjhbfidaaDoorGPr
import Derived.Test.YtfbockgjhbfidaaDoorSPrSoundingslaw01Awake
import Derived.Test.YtfbockgjhbfidaaDoorSPrSoundingsref01Make
namespace Go.Proofs.YtfbockgjhbfidaaDoor.Pr
open Go.RowKit Go.Proofs.YtfbockgjhbfidaaDoorW.PrintWords Go.Proofs.YtfbockgjhbfidaaDoorW.PrintLast Go.Proofs.YtfbockgjhbfidaaDoorW.PrintMore
attribute [local go_sem] max2_int min2_int max_two min_two max_three min_three max_four min_four   -- for this text's walks alone
set_option linter.unusedVariables false
set_option linter.unusedSimpArgs false

/-! ### soundingslaw01_LabelMakes: function 4 -/
mutual
def soundingslaw01_LabelMakes.j0 : Nat → List (S46) → ByteArray → Bool → Option (Bool)
  | 0, _, _, _ => none
  | k + 1, x0, x1, x19 => if x19 = true then (some true) else ((some (([] : List (S46)) : List (S46))).bind fun y268 => (if y268.length + x0.length < 4398046511104 then ((some (y268 ++ x0 : List (S46))).bind fun y271 => ((label_Make.f y271).bind fun bt274 => ((soundingsref01_Make.f k x0).bind fun bt278 => ((label_Right.f x0).bind fun t282 => ((soundingsref01_Right.f x0).bind fun t283 => (if (t282 != t283) = true then (soundingslaw01_LabelMakes.j1 k bt274.1 bt274.2 bt278.1 bt278.2 true) else ((label_IsName.f k x1).bind fun t284 => ((soundingsref01_IsName.f k x1).bind fun t285 => (if (t284 != t285) = true then (soundingslaw01_LabelMakes.j1 k bt274.1 bt274.2 bt278.1 bt278.2 true) else ((soundingsref01_Cmp.f k y271 x0).bind fun t286 => (soundingslaw01_LabelMakes.j1 k bt274.1 bt274.2 bt278.1 bt278.2 (t286 != 0)))))))))))) else (none)))
def soundingslaw01_LabelMakes.j1 : Nat → List (S46) → Option Int → List (S46) → Bool → Bool → Option (Bool)
  | 0, _, _, _, _, _ => none
  | k + 1, x6, x7, x8, x9, x50 => if x50 = true then (some false) else (if x9 = true then (if x7.isNone = true then ((soundingsref01_Cmp.f k x6 x8).bind fun t288 => (if t288 = 0 then ((label_Right.f x6).bind fun t289 => (some t289)) else (some false))) else (some false)) else ((soundingslaw01_Code.f x7).bind fun t290 => (if t290 = 1 then (some ((x6.length : Int) == 0)) else (some false))))
end
def soundingslaw01_LabelMakes.f (k : Nat) (l0 : List (S46)) (a1 : ByteArray) : Option (Bool) := (soundingslaw01_awake.f k).bind fun t266 => (if t266 = true then ((soundingsref01_Short.f k l0).bind fun t267 => (if t267 = true then (soundingslaw01_LabelMakes.j0 k l0 a1 (decide ((a1.size : Int) > 400))) else (soundingslaw01_LabelMakes.j0 k l0 a1 true))) else (some false))
theorem soundingslaw01_LabelMakes.mono_l : ∀ k, (∀ y0 y1 y2, LeO (soundingslaw01_LabelMakes.j0 k y0 y1 y2) (soundingslaw01_LabelMakes.j0 (k + 1) y0 y1 y2)) ∧ (∀ y0 y1 y2 y3 y4, LeO (soundingslaw01_LabelMakes.j1 k y0 y1 y2 y3 y4) (soundingslaw01_LabelMakes.j1 (k + 1) y0 y1 y2 y3 y4))
  | 0 => ⟨fun _ _ _ r h => by simp [soundingslaw01_LabelMakes.j0] at h, fun _ _ _ _ _ r h => by simp [soundingslaw01_LabelMakes.j1] at h⟩
  | k + 1 => by
    obtain ⟨ih0, ih1⟩ := soundingslaw01_LabelMakes.mono_l k
    refine ⟨?_, ?_⟩
    · intro y0 y1 y2
      unfold soundingslaw01_LabelMakes.j0
      repeat' first
      | (with_reducible exact ih0 _ _ _)
      | (with_reducible exact ih1 _ _ _ _ _)
      | (with_reducible exact label_IsName.mono _ _)
      | (with_reducible exact soundingslaw01_awake.mono _)
      | (with_reducible exact soundingsref01_Cmp.mono _ _ _)
      | (with_reducible exact soundingsref01_IsName.mono _ _)
      | (with_reducible exact soundingsref01_Make.mono _ _)
      | (with_reducible exact soundingsref01_Short.mono _ _)
      | (with_reducible exact LeO.refl _)
      | (with_reducible exact LeO.none _)
      | (with_reducible refine LeO.ite ?_ ?_)
      | (with_reducible refine LeO.bind ?_ (fun _ => ?_))
      | exact ih0 _ _ _
      | exact ih1 _ _ _ _ _
      | exact label_IsName.mono _ _
      | exact soundingslaw01_awake.mono _
      | exact soundingsref01_Cmp.mono _ _ _
      | exact soundingsref01_IsName.mono _ _
      | exact soundingsref01_Make.mono _ _
      | exact soundingsref01_Short.mono _ _
      | exact LeO.none _
      | refine LeO.ite ?_ ?_
      | refine LeO.bind ?_ (fun _ => ?_)
    · intro y0 y1 y2 y3 y4
      unfold soundingslaw01_LabelMakes.j1
      repeat' first
      | (with_reducible exact ih0 _ _ _)
      | (with_reducible exact ih1 _ _ _ _ _)
      | (with_reducible exact label_IsName.mono _ _)
      | (with_reducible exact soundingslaw01_awake.mono _)
      | (with_reducible exact soundingsref01_Cmp.mono _ _ _)
      | (with_reducible exact soundingsref01_IsName.mono _ _)
      | (with_reducible exact soundingsref01_Make.mono _ _)
      | (with_reducible exact soundingsref01_Short.mono _ _)
      | (with_reducible exact LeO.refl _)
      | (with_reducible exact LeO.none _)
      | (with_reducible refine LeO.ite ?_ ?_)
      | (with_reducible refine LeO.bind ?_ (fun _ => ?_))
      | exact ih0 _ _ _
      | exact ih1 _ _ _ _ _
      | exact label_IsName.mono _ _
      | exact soundingslaw01_awake.mono _
      | exact soundingsref01_Cmp.mono _ _ _
      | exact soundingsref01_IsName.mono _ _
      | exact soundingsref01_Make.mono _ _
      | exact soundingsref01_Short.mono _ _
      | exact LeO.none _
      | refine LeO.ite ?_ ?_
      | refine LeO.bind ?_ (fun _ => ?_)
theorem soundingslaw01_LabelMakes.mono : ∀ a0 a1 k, LeO (soundingslaw01_LabelMakes.f k a0 a1) (soundingslaw01_LabelMakes.f (k + 1) a0 a1) := by
  intro a0 a1 k
  obtain ⟨ih0, ih1⟩ := soundingslaw01_LabelMakes.mono_l k
  unfold soundingslaw01_LabelMakes.f
  repeat' first
      | (with_reducible exact ih0 _ _ _)
      | (with_reducible exact ih1 _ _ _ _ _)
      | (with_reducible exact label_IsName.mono _ _)
      | (with_reducible exact soundingslaw01_awake.mono _)
      | (with_reducible exact soundingsref01_Cmp.mono _ _ _)
      | (with_reducible exact soundingsref01_IsName.mono _ _)
      | (with_reducible exact soundingsref01_Make.mono _ _)
      | (with_reducible exact soundingsref01_Short.mono _ _)
      | (with_reducible exact LeO.refl _)
      | (with_reducible exact LeO.none _)
      | (with_reducible refine LeO.ite ?_ ?_)
      | (with_reducible refine LeO.bind ?_ (fun _ => ?_))
      | exact ih0 _ _ _
      | exact ih1 _ _ _ _ _
      | exact label_IsName.mono _ _
      | exact soundingslaw01_awake.mono _
      | exact soundingsref01_Cmp.mono _ _ _
      | exact soundingsref01_IsName.mono _ _
      | exact soundingsref01_Make.mono _ _
      | exact soundingsref01_Short.mono _ _
      | exact LeO.none _
      | refine LeO.ite ?_ ?_
      | refine LeO.bind ?_ (fun _ => ?_)
set_option maxHeartbeats 8000000 in
set_option maxRecDepth 100000 in
theorem soundingslaw01_LabelMakes.calls (k : Nat) (A0 : Option Addr) (c0 : Nat) (l0 : List (S46)) (a1 : ByteArray) (r : Bool) (w : World) (hL_ : Aside0 (LaidAll w)) (hr0 : Kd.C k46 w A0 l0.length l0) (hc0 : l0.length ≤ c0) (h : soundingslaw01_LabelMakes.f k l0 a1 = some r) :
    Calls Tryd.prog 4 #[.slice A0 l0.length c0, .string a1] w fun e w' => e = .returned (.bool r) ∧ Below w.heap.size w w' := by
  have hu24 := Tryd.underlying24
  have hu84 := Tryd.underlying84
  have HR0 := Aside0.mk hr0
  have HC0 := Aside0.mk hc0
  clear hr0 hc0
  have HB := Aside0.mk (Below.refl w.heap.size w)
  have H : ((soundingslaw01_awake.f k).bind fun t266 => (if t266 = true then ((soundingsref01_Short.f k l0).bind fun t267 => (if t267 = true then (soundingslaw01_LabelMakes.j0 k l0 a1 (decide ((a1.size : Int) > 400))) else (soundingslaw01_LabelMakes.j0 k l0 a1 true))) else (some false))) = some r := h
  clear h
  replace H := Option.bind_eq_some_iff.mp H
  obtain ⟨t266, A30, H⟩ := H
  replace H : (if t266 = true then ((soundingsref01_Short.f k l0).bind fun t267 => (if t267 = true then (soundingslaw01_LabelMakes.j0 k l0 a1 (decide ((a1.size : Int) > 400))) else (soundingslaw01_LabelMakes.j0 k l0 a1 true))) else (some false)) = some r := H
  have A3 := Aside0.mk A30
  clear A30
  by_cases c4 : t266 = true
  · subst c4
    have H1 : ((soundingsref01_Short.f k l0).bind fun t267 => (if t267 = true then (soundingslaw01_LabelMakes.j0 k l0 a1 (decide ((a1.size : Int) > 400))) else (soundingslaw01_LabelMakes.j0 k l0 a1 true))) = some r := by rw [if_pos rfl] at H; exact H
    clear H
    have H := H1
    clear H1
    have HC5 := Aside0.mk H
    clear H
    go_enter Tryd.func4, Tryd.ntmps4
    go_upto_region 3 with (first | ((with_reducible refine gate_callee (f := 17) rfl ?_); refine goesL_ (some 10) rfl rfl Tryd.func17 (by kernel_rfl) rfl #[] rfl (by (try simp only [List.map_toArray, List.map_cons, List.map_nil]); first | done | rfl | (simp only [List.length_drop, List.length_take]; rfl)) ?_; (with_reducible refine (soundingslaw01_awake.calls k  true _ ⟨hL_.out.below (by repeat (first | (with_reducible first | exact HB.out | apply below_alloc | apply pw_below_drewN | apply below_drew1) | exact HB.out))⟩ A3.out).mono ?_); rintro e w6 ⟨rfl, hb⟩; refine ⟨_, rfl, ?_⟩; have n0_ := Aside0.mk (below_step (by repeat (first | (with_reducible first | exact HB.out | apply below_alloc | apply pw_below_drewN | apply below_drew1) | exact HB.out)) hb); clear HB; have HB := n0_; clear n0_; (try clear hb); (try clear hb2); (try clear hk); (try clear hi)))
    (try simp only [Act.put, List.setIfInBounds_toArray, List.set_cons_zero, List.set_cons_succ])
    go_cut [19] (fun v19 wc => ∃ (kq : Nat) (x19_4 : Bool), v19 = .bool x19_4 ∧ Aside0 (soundingslaw01_LabelMakes.j0 kq l0 a1 x19_4 = some r) ∧ Aside0 (kq ≤ k) ∧ Aside0 (Below w.heap.size w wc))
    case first =>
      have H := HC5.out
      clear HC5
      replace H := Option.bind_eq_some_iff.mp H
      obtain ⟨t267, A70, H⟩ := H
      replace H : (if t267 = true then (soundingslaw01_LabelMakes.j0 k l0 a1 (decide ((a1.size : Int) > 400))) else (soundingslaw01_LabelMakes.j0 k l0 a1 true)) = some r := H
      have A7 := Aside0.mk A70
      clear A70
      by_cases c8 : t267 = true
      · subst c8
        have H1 : (soundingslaw01_LabelMakes.j0 k l0 a1 (decide ((a1.size : Int) > 400))) = some r := by rw [if_pos rfl] at H; exact H
        clear H
        have H := H1
        clear H1
        have H' := Aside0.mk H
        clear H
        go_wp2_with (first | ((with_reducible refine gate_callee (f := 18) rfl ?_); refine goesL_ (some 13) rfl rfl Tryd.func18 (by kernel_rfl) rfl #[.slice A0 l0.length c0] rfl (by (try simp only [List.map_toArray, List.map_cons, List.map_nil]); first | done | rfl | (simp only [List.length_drop, List.length_take]; rfl)) ?_; (with_reducible refine (soundingsref01_Short.calls k _ _ l0 true _ ?side1 ?side2 A7.out).mono ?_); (case side1 => repeat (first | exact (Kd.C_below HR0.out HB.out) | (with_reducible refine Kd.C_alloc ?_ _) | (with_reducible refine Kd.C_drewN ?_ _) | (with_reducible refine Kd.C_drew ?_))); (case side2 => exact HC0.out); rintro e w' ⟨rfl, ⟨nd, rfl⟩⟩; refine ⟨_, rfl, ?_⟩))
        go_meet
        case rel => exact ⟨_, (decide ((a1.size : Int) > 400)), (by first | rfl | (simp; done) | (simp [*]; done)), H', ⟨by first | omega | exact Nat.le_refl _⟩, ⟨by repeat (first | (with_reducible first | exact HB.out | apply below_alloc | apply pw_below_drewN | apply below_drew1) | exact HB.out)⟩⟩
      · replace c8 := Bool.eq_false_iff.mpr c8
        subst c8
        have H1 : (soundingslaw01_LabelMakes.j0 k l0 a1 true) = some r := by rw [if_neg (show ¬ (false = true) by decide)] at H; exact H
        clear H
        have H := H1
        clear H1
        have H' := Aside0.mk H
        clear H
        go_wp2_with (first | ((with_reducible refine gate_callee (f := 18) rfl ?_); refine goesL_ (some 13) rfl rfl Tryd.func18 (by kernel_rfl) rfl #[.slice A0 l0.length c0] rfl (by (try simp only [List.map_toArray, List.map_cons, List.map_nil]); first | done | rfl | (simp only [List.length_drop, List.length_take]; rfl)) ?_; (with_reducible refine (soundingsref01_Short.calls k _ _ l0 false _ ?side1 ?side2 A7.out).mono ?_); (case side1 => repeat (first | exact (Kd.C_below HR0.out HB.out) | (with_reducible refine Kd.C_alloc ?_ _) | (with_reducible refine Kd.C_drewN ?_ _) | (with_reducible refine Kd.C_drew ?_))); (case side2 => exact HC0.out); rintro e w' ⟨rfl, ⟨nd, rfl⟩⟩; refine ⟨_, rfl, ?_⟩))
        go_meet
        case rel => exact ⟨_, (true), (by first | rfl | (simp; done) | (simp [*]; done)), H', ⟨by first | omega | exact Nat.le_refl _⟩, ⟨by repeat (first | (with_reducible first | exact HB.out | apply below_alloc | apply pw_below_drewN | apply below_drew1) | exact HB.out)⟩⟩
    case rest =>
      clear HC5
      try clear c1
      try clear p2
      try clear c4
      try clear c8
      obtain ⟨kq, x19_4, rfl, HA, HJ4, HB⟩ := hcut
      cases kq with
      | zero => exact absurd HA.out (by simp [soundingslaw01_LabelMakes.j0])
      | succ kj4 =>
        have H := HA.out
        clear HA
        simp only [soundingslaw01_LabelMakes.j0] at H
        by_cases c9 : x19_4 = true
        · subst c9
          have H1 : (some true) = some r := by rw [if_pos rfl] at H; exact H
          clear H
          have H := H1
          clear H1
          obtain rfl := Option.some.inj H
          go_wp2
          go_ret
          exact ⟨by first | rfl | (simp [errW_none, errW_some] <;> rfl) | (simp [*, errW_none, errW_some] <;> rfl), by repeat (first | (with_reducible first | exact HB.out | apply below_alloc | apply pw_below_drewN | apply below_drew1) | exact HB.out)⟩
        · replace c9 := Bool.eq_false_iff.mpr c9
          subst c9
          have H1 : ((some (([] : List (S46)) : List (S46))).bind fun y268 => (if y268.length + l0.length < 4398046511104 then ((some (y268 ++ l0 : List (S46))).bind fun y271 => ((label_Make.f y271).bind fun bt274 => ((soundingsref01_Make.f kj4 l0).bind fun bt278 => ((label_Right.f l0).bind fun t282 => ((soundingsref01_Right.f l0).bind fun t283 => (if (t282 != t283) = true then (soundingslaw01_LabelMakes.j1 kj4 bt274.1 bt274.2 bt278.1 bt278.2 true) else ((label_IsName.f kj4 a1).bind fun t284 => ((soundingsref01_IsName.f kj4 a1).bind fun t285 => (if (t284 != t285) = true then (soundingslaw01_LabelMakes.j1 kj4 bt274.1 bt274.2 bt278.1 bt278.2 true) else ((soundingsref01_Cmp.f kj4 y271 l0).bind fun t286 => (soundingslaw01_LabelMakes.j1 kj4 bt274.1 bt274.2 bt278.1 bt278.2 (t286 != 0)))))))))))) else (none))) = some r := by rw [if_neg (show ¬ (false = true) by decide)] at H; exact H
          clear H
          have H := H1
          clear H1
          obtain ⟨y268, hy268⟩ : ∃ y_ : List (S46), y_ = (([] : List (S46))) := ⟨_, rfl⟩
          replace H : (if y268.length + l0.length < 4398046511104 then ((some (y268 ++ l0 : List (S46))).bind fun y271 => ((label_Make.f y271).bind fun bt274 => ((soundingsref01_Make.f kj4 l0).bind fun bt278 => ((label_Right.f l0).bind fun t282 => ((soundingsref01_Right.f l0).bind fun t283 => (if (t282 != t283) = true then (soundingslaw01_LabelMakes.j1 kj4 bt274.1 bt274.2 bt278.1 bt278.2 true) else ((label_IsName.f kj4 a1).bind fun t284 => ((soundingsref01_IsName.f kj4 a1).bind fun t285 => (if (t284 != t285) = true then (soundingslaw01_LabelMakes.j1 kj4 bt274.1 bt274.2 bt278.1 bt278.2 true) else ((soundingsref01_Cmp.f kj4 y271 l0).bind fun t286 => (soundingslaw01_LabelMakes.j1 kj4 bt274.1 bt274.2 bt278.1 bt278.2 (t286 != 0)))))))))))) else (none)) = some r := by first | (rw [hy268]; with_reducible exact H) | (have H2_ := (Option.bind_some _ _).symm.trans H; rw [hy268]; with_reducible exact H2_) | (have H2_ := (Option.bind_some _ _).symm.trans H; with_reducible exact H2_) | with_reducible exact H | (rw [hy268]; exact H) | exact H
          have Ny268 := Aside0.mk hy268
          clear hy268
          by_cases c10 : y268.length + l0.length < 4398046511104
          · rw [if_pos c10] at H
            have LMc10 := Aside0.mk c10
            clear c10
            obtain ⟨y271, hy271⟩ : ∃ y_ : List (S46), y_ = (y268 ++ l0) := ⟨_, rfl⟩
            replace H : ((label_Make.f y271).bind fun bt274 => ((soundingsref01_Make.f kj4 l0).bind fun bt278 => ((label_Right.f l0).bind fun t282 => ((soundingsref01_Right.f l0).bind fun t283 => (if (t282 != t283) = true then (soundingslaw01_LabelMakes.j1 kj4 bt274.1 bt274.2 bt278.1 bt278.2 true) else ((label_IsName.f kj4 a1).bind fun t284 => ((soundingsref01_IsName.f kj4 a1).bind fun t285 => (if (t284 != t285) = true then (soundingslaw01_LabelMakes.j1 kj4 bt274.1 bt274.2 bt278.1 bt278.2 true) else ((soundingsref01_Cmp.f kj4 y271 l0).bind fun t286 => (soundingslaw01_LabelMakes.j1 kj4 bt274.1 bt274.2 bt278.1 bt278.2 (t286 != 0))))))))))) = some r := by first | (rw [hy271]; with_reducible exact H) | (have H2_ := (Option.bind_some _ _).symm.trans H; rw [hy271]; with_reducible exact H2_) | (have H2_ := (Option.bind_some _ _).symm.trans H; with_reducible exact H2_) | with_reducible exact H | (rw [hy271]; exact H) | exact H
            have Ny271 := Aside0.mk hy271
            clear hy271
            replace H := Option.bind_eq_some_iff.mp H
            obtain ⟨⟨t274, t275⟩, A110, H⟩ := H
            replace H : ((soundingsref01_Make.f kj4 l0).bind fun bt278 => ((label_Right.f l0).bind fun t282 => ((soundingsref01_Right.f l0).bind fun t283 => (if (t282 != t283) = true then (soundingslaw01_LabelMakes.j1 kj4 t274 t275 bt278.1 bt278.2 true) else ((label_IsName.f kj4 a1).bind fun t284 => ((soundingsref01_IsName.f kj4 a1).bind fun t285 => (if (t284 != t285) = true then (soundingslaw01_LabelMakes.j1 kj4 t274 t275 bt278.1 bt278.2 true) else ((soundingsref01_Cmp.f kj4 y271 l0).bind fun t286 => (soundingslaw01_LabelMakes.j1 kj4 t274 t275 bt278.1 bt278.2 (t286 != 0)))))))))) = some r := H
            have A11 := Aside0.mk A110
            clear A110
            replace H := Option.bind_eq_some_iff.mp H
            obtain ⟨⟨t278, t279⟩, A120, H⟩ := H
            replace H : ((label_Right.f l0).bind fun t282 => ((soundingsref01_Right.f l0).bind fun t283 => (if (t282 != t283) = true then (soundingslaw01_LabelMakes.j1 kj4 t274 t275 t278 t279 true) else ((label_IsName.f kj4 a1).bind fun t284 => ((soundingsref01_IsName.f kj4 a1).bind fun t285 => (if (t284 != t285) = true then (soundingslaw01_LabelMakes.j1 kj4 t274 t275 t278 t279 true) else ((soundingsref01_Cmp.f kj4 y271 l0).bind fun t286 => (soundingslaw01_LabelMakes.j1 kj4 t274 t275 t278 t279 (t286 != 0))))))))) = some r := H
            have A12 := Aside0.mk A120
            clear A120
            have HC13 := Aside0.mk H
            clear H
            go_upto_region 8 with (first | ((with_reducible refine gate_dst (N := 20) rfl ?_); (try (refine gate_guard (by rfl) ?_; dsimp only)); refine Kd.R_lit k46 _ 46 ?hg (N := 20) ?hd (xs := ([] : List (S46))) (inner := []) (ok := fun _ => True) (okp := fun _ => True) ?hr ?hp (fun _ hk => hk) trivial (Below.refl _ _) (Nat.le_refl _) (by simp) ?_; (case hd => rfl); (case hg => rfl); (case hr => first | (go_simp; done) | (go_simp; rfl)); (case hp => exact (Reps.none _ _)); intro v269 w14 ho15 hb hg_ hnew_; clear hg_ hnew_; (first | rw [← Ny268.out] at ho15 | (simp only [Int.reduceToNat] at ho15; rw [← Ny268.out] at ho15)); have n0_ := Aside0.mk (Kd.R_lower ho15 (below_size (by repeat (first | (with_reducible first | exact HB.out | apply below_alloc | apply pw_below_drewN | apply below_drew1) | exact HB.out)))); have n1_ := Aside0.mk (below_step (by repeat (first | (with_reducible first | exact HB.out | apply below_alloc | apply pw_below_drewN | apply below_drew1) | exact HB.out)) hb); clear HB; have HO270 := n0_; have HB := n1_; clear n0_ n1_; clear hb ho15) | ((with_reducible refine gate_builtin (b := .append) (xs := #[.tmp 20, .tmp 21]) rfl ?_); (try (refine gate_guard (by rfl) ?_; dsimp only)); at_builtin; refine Kd.R_append_rows k46 (w0 := w) w.heap.size rfl (.tmp 20) (.tmp 21) 36 46 (.agg #[(.string ⟨#[]⟩), (.string ⟨#[]⟩)]) 32 rfl Tryd.underlying36 info46 rfl (by decide) (by omega) v269 y268 l0 _ _ _ (fun _ => True) (fun _ => False) rfl rfl ?aO ?aR (fun _ _ h => h) (fun _ h => h.elim) ?aF ?aB ?aS ?aL ?_; (case aR => repeat (first | exact (Kd.C_below HR0.out HB.out) | (with_reducible refine Kd.C_alloc ?_ _) | (with_reducible refine Kd.C_drewN ?_ _) | (with_reducible refine Kd.C_drew ?_))); (case aB => exact (by repeat (first | (with_reducible first | exact HB.out | apply below_alloc | apply pw_below_drewN | apply below_drew1) | exact HB.out))); (case aF => exact (fun _ _ => trivial)); (case aO => exact (by (with_reducible repeat (first | apply Kd.R_alloc | apply Kd.R_drewN | apply Kd.R_drew)); exact HO270.out)); (case aS => exact (below_size (by repeat (first | (with_reducible first | exact HB.out | apply below_alloc | apply pw_below_drewN | apply below_drew1) | exact HB.out)))); (case aL => have := LMc10.out; omega); intro v272 w16 ho hb hg hat; rw [← Ny271.out] at ho; have n0_ := Aside0.mk (hb); have n1_ := Aside0.mk (ho); clear HB; clear HO270; have HB := n0_; have HO273 := n1_; clear n0_ n1_; clear ho hb hg hat; obtain ⟨Ao17, co17, eo17⟩ := Kd.R_slice HO273.out; subst eo17) | ((with_reducible refine gate_callee (f := 19) rfl ?_); refine goesL_ (some 25) rfl rfl Tryd.func19 (by kernel_rfl) rfl #[.slice Ao17 y271.length co17] rfl (by (try simp only [List.map_toArray, List.map_cons, List.map_nil]); first | done | rfl | (simp only [List.length_drop, List.length_take]; rfl)) ?_; (with_reducible refine (label_Make.calls _ _ y271 t274 t275 _ ?side1 ?side2 ⟨hL_.out.below (by repeat (first | (with_reducible first | exact HB.out | apply below_alloc | apply pw_below_drewN | apply below_drew1) | exact HB.out))⟩ A11.out).mono ?_); (case side1 => repeat (first | exact (Kd.R_reads' HO273.out).2.2 | (with_reducible refine Kd.C_alloc ?_ _) | (with_reducible refine Kd.C_drewN ?_ _) | (with_reducible refine Kd.C_drew ?_))); (case side2 => exact (Kd.R_reads' HO273.out).2.1); rintro e w18 ⟨v276, rfl, ho0, hb⟩; refine ⟨_, rfl, ?_⟩; have n0_ := Aside0.mk (Kd.R_elder' (by (with_reducible repeat (first | apply Kd.R_alloc | apply Kd.R_drewN | apply Kd.R_drew)); exact HO273.out) (Kd.R_base ho0) hb); have n1_ := Aside0.mk (Kd.R_lower (Kd.R_new' ho0 (Kd.R_lt (by (with_reducible repeat (first | apply Kd.R_alloc | apply Kd.R_drewN | apply Kd.R_drew)); exact HO273.out))) (below_size (by repeat (first | (with_reducible first | exact HB.out | apply below_alloc | apply pw_below_drewN | apply below_drew1) | exact HB.out)))); have n2_ := Aside0.mk (below_step (by repeat (first | (with_reducible first | exact HB.out | apply below_alloc | apply pw_below_drewN | apply below_drew1) | exact HB.out)) hb); clear HO273; clear HB; have HO273 := n0_; have HO277 := n1_; have HB := n2_; clear n0_ n1_ n2_; (try clear hb); (try clear hb2); (try clear hk); (try clear hi); (try clear ho0); (try simp only [errW_none, errW_some])) | ((with_reducible refine gate_callee (f := 20) rfl ?_); refine goesL_ (some 30) rfl rfl Tryd.func20 (by kernel_rfl) rfl #[.slice A0 l0.length c0] rfl (by (try simp only [List.map_toArray, List.map_cons, List.map_nil]); first | done | rfl | (simp only [List.length_drop, List.length_take]; rfl)) ?_; (with_reducible refine (soundingsref01_Make.calls kj4 _ _ l0 t278 t279 _ ?side1 ?side2 A12.out).mono ?_); (case side1 => repeat (first | exact (Kd.C_below HR0.out HB.out) | (with_reducible refine Kd.C_alloc ?_ _) | (with_reducible refine Kd.C_drewN ?_ _) | (with_reducible refine Kd.C_drew ?_))); (case side2 => exact HC0.out); rintro e w19 ⟨v280, rfl, ho0, hb⟩; refine ⟨_, rfl, ?_⟩; have n0_ := Aside0.mk (Kd.R_elder' (by (with_reducible repeat (first | apply Kd.R_alloc | apply Kd.R_drewN | apply Kd.R_drew)); exact HO273.out) (Kd.R_base ho0) hb); have n1_ := Aside0.mk (Kd.R_elder' (by (with_reducible repeat (first | apply Kd.R_alloc | apply Kd.R_drewN | apply Kd.R_drew)); exact HO277.out) (Kd.R_base ho0) hb); have n2_ := Aside0.mk (Kd.R_lower (Kd.R_new' (Kd.R_new' ho0 (Kd.R_lt (by (with_reducible repeat (first | apply Kd.R_alloc | apply Kd.R_drewN | apply Kd.R_drew)); exact HO273.out))) (Kd.R_lt (by (with_reducible repeat (first | apply Kd.R_alloc | apply Kd.R_drewN | apply Kd.R_drew)); exact HO277.out))) (below_size (by repeat (first | (with_reducible first | exact HB.out | apply below_alloc | apply pw_below_drewN | apply below_drew1) | exact HB.out)))); have n3_ := Aside0.mk (below_step (by repeat (first | (with_reducible first | exact HB.out | apply below_alloc | apply pw_below_drewN | apply below_drew1) | exact HB.out)) hb); clear HO273; clear HO277; clear HB; have HO273 := n0_; have HO277 := n1_; have HO281 := n2_; have HB := n3_; clear n0_ n1_ n2_ n3_; (try clear hb); (try clear hb2); (try clear hk); (try clear hi); (try clear ho0)))
            (try simp only [Act.put, List.setIfInBounds_toArray, List.set_cons_zero, List.set_cons_succ])
            go_cut [50] (fun v50 wc => ∃ (kq : Nat) (x50_12 : Bool), v50 = .bool x50_12 ∧ Aside0 (soundingslaw01_LabelMakes.j1 kq t274 t275 t278 t279 x50_12 = some r) ∧ Aside0 (kq ≤ kj4) ∧ Aside0 (Kd.R k46 46 wc w.heap.size (fun k_ => some k_ ≠ (v280 : Value).ownBlock) v276 t274) ∧ Aside0 (Kd.R k46 46 wc w.heap.size (fun k_ => some k_ ≠ (v276 : Value).ownBlock) v280 t278) ∧ Aside0 (Below w.heap.size w wc))
            case first =>
              have H := HC13.out
              clear HC13
              replace H := Option.bind_eq_some_iff.mp H
              obtain ⟨t282, A200, H⟩ := H
              replace H : ((soundingsref01_Right.f l0).bind fun t283 => (if (t282 != t283) = true then (soundingslaw01_LabelMakes.j1 kj4 t274 t275 t278 t279 true) else ((label_IsName.f kj4 a1).bind fun t284 => ((soundingsref01_IsName.f kj4 a1).bind fun t285 => (if (t284 != t285) = true then (soundingslaw01_LabelMakes.j1 kj4 t274 t275 t278 t279 true) else ((soundingsref01_Cmp.f kj4 y271 l0).bind fun t286 => (soundingslaw01_LabelMakes.j1 kj4 t274 t275 t278 t279 (t286 != 0)))))))) = some r := H
              have A20 := Aside0.mk A200
              clear A200
              replace H := Option.bind_eq_some_iff.mp H
              obtain ⟨t283, A210, H⟩ := H
              replace H : (if (t282 != t283) = true then (soundingslaw01_LabelMakes.j1 kj4 t274 t275 t278 t279 true) else ((label_IsName.f kj4 a1).bind fun t284 => ((soundingsref01_IsName.f kj4 a1).bind fun t285 => (if (t284 != t285) = true then (soundingslaw01_LabelMakes.j1 kj4 t274 t275 t278 t279 true) else ((soundingsref01_Cmp.f kj4 y271 l0).bind fun t286 => (soundingslaw01_LabelMakes.j1 kj4 t274 t275 t278 t279 (t286 != 0))))))) = some r := H
              have A21 := Aside0.mk A210
              clear A210
              by_cases c22 : (t282 != t283) = true
              · rw [if_pos c22] at H
                have c22b0 : (t282 != t283) = true := c22
                (try (have c22b1 : decide (t282 = t283) = false := by simpa using c22))
                (try (have c22b2 : (t282 == t283) = false := by simpa using c22))
                (try (have c22b3 : ¬ (t282 = t283) := by simpa using c22))
                clear c22
                (first | rw [c22b0] | (simp only [i64_w, i32_w]; rw [c22b0]) | skip)
                have H' := Aside0.mk H
                clear H
                go_wp2_with (first | ((with_reducible refine gate_callee (f := 21) rfl ?_); refine goesL_ (some 34) rfl rfl Tryd.func21 (by kernel_rfl) rfl #[.slice A0 l0.length c0] rfl (by (try simp only [List.map_toArray, List.map_cons, List.map_nil]); first | done | rfl | (simp only [List.length_drop, List.length_take]; rfl)) ?_; (with_reducible refine (label_Right.calls _ _ l0 t282 _ ?side1 ?side2 ⟨hL_.out.below (by repeat (first | (with_reducible first | exact HB.out | apply below_alloc | apply pw_below_drewN | apply below_drew1) | exact HB.out))⟩ A20.out).mono ?_); (case side1 => repeat (first | exact (Kd.C_below HR0.out HB.out) | (with_reducible refine Kd.C_alloc ?_ _) | (with_reducible refine Kd.C_drewN ?_ _) | (with_reducible refine Kd.C_drew ?_))); (case side2 => exact HC0.out); rintro e w23 ⟨rfl, hb⟩; refine ⟨_, rfl, ?_⟩; have n0_ := Aside0.mk (Kd.R_below (by (with_reducible repeat (first | apply Kd.R_alloc | apply Kd.R_drewN | apply Kd.R_drew)); exact HO273.out) hb); have n1_ := Aside0.mk (Kd.R_below (by (with_reducible repeat (first | apply Kd.R_alloc | apply Kd.R_drewN | apply Kd.R_drew)); exact HO277.out) hb); have n2_ := Aside0.mk (Kd.R_below (by (with_reducible repeat (first | apply Kd.R_alloc | apply Kd.R_drewN | apply Kd.R_drew)); exact HO281.out) hb); have n3_ := Aside0.mk (below_step (by repeat (first | (with_reducible first | exact HB.out | apply below_alloc | apply pw_below_drewN | apply below_drew1) | exact HB.out)) hb); clear HO273; clear HO277; clear HO281; clear HB; have HO273 := n0_; have HO277 := n1_; have HO281 := n2_; have HB := n3_; clear n0_ n1_ n2_ n3_; (try clear hb); (try clear hb2); (try clear hk); (try clear hi)) | ((with_reducible refine gate_callee (f := 22) rfl ?_); refine goesL_ (some 36) rfl rfl Tryd.func22 (by kernel_rfl) rfl #[.slice A0 l0.length c0] rfl (by (try simp only [List.map_toArray, List.map_cons, List.map_nil]); first | done | rfl | (simp only [List.length_drop, List.length_take]; rfl)) ?_; (with_reducible refine (soundingsref01_Right.calls _ _ l0 t283 _ ?side1 ?side2 A21.out).mono ?_); (case side1 => repeat (first | exact (Kd.C_below HR0.out HB.out) | (with_reducible refine Kd.C_alloc ?_ _) | (with_reducible refine Kd.C_drewN ?_ _) | (with_reducible refine Kd.C_drew ?_))); (case side2 => exact HC0.out); rintro e w24 ⟨rfl, hb⟩; refine ⟨_, rfl, ?_⟩; have n0_ := Aside0.mk (Kd.R_below (by (with_reducible repeat (first | apply Kd.R_alloc | apply Kd.R_drewN | apply Kd.R_drew)); exact HO273.out) hb); have n1_ := Aside0.mk (Kd.R_below (by (with_reducible repeat (first | apply Kd.R_alloc | apply Kd.R_drewN | apply Kd.R_drew)); exact HO277.out) hb); have n2_ := Aside0.mk (Kd.R_below (by (with_reducible repeat (first | apply Kd.R_alloc | apply Kd.R_drewN | apply Kd.R_drew)); exact HO281.out) hb); have n3_ := Aside0.mk (below_step (by repeat (first | (with_reducible first | exact HB.out | apply below_alloc | apply pw_below_drewN | apply below_drew1) | exact HB.out)) hb); clear HO273; clear HO277; clear HO281; clear HB; have HO273 := n0_; have HO277 := n1_; have HO281 := n2_; have HB := n3_; clear n0_ n1_ n2_ n3_; (try clear hb); (try clear hb2); (try clear hk); (try clear hi)))
                go_meet
                case rel => exact ⟨_, (true), (by first | rfl | (simp; done) | (simp [*]; done)), H', ⟨by have := HJ4.out; first | omega | exact Nat.le_refl _⟩, ⟨by (with_reducible repeat (first | apply Kd.R_alloc | apply Kd.R_drewN | apply Kd.R_drew)); exact Kd.R_mono HO277.out (fun _ hk => hk.2)⟩, ⟨by (with_reducible repeat (first | apply Kd.R_alloc | apply Kd.R_drewN | apply Kd.R_drew)); exact Kd.R_mono HO281.out (fun _ hk => hk.2)⟩, ⟨by repeat (first | (with_reducible first | exact HB.out | apply below_alloc | apply pw_below_drewN | apply below_drew1) | exact HB.out)⟩⟩
              · rw [if_neg c22] at H
                have c22b0 : (t282 != t283) = false := by simpa using c22
                (try (have c22b1 : decide (t282 = t283) = true := by simpa using c22))
                (try (have c22b2 : (t282 == t283) = true := by simpa using c22))
                clear c22
                (first | rw [c22b0] | (simp only [i64_w, i32_w]; rw [c22b0]) | skip)
                replace H := Option.bind_eq_some_iff.mp H
                obtain ⟨t284, A250, H⟩ := H
                replace H : ((soundingsref01_IsName.f kj4 a1).bind fun t285 => (if (t284 != t285) = true then (soundingslaw01_LabelMakes.j1 kj4 t274 t275 t278 t279 true) else ((soundingsref01_Cmp.f kj4 y271 l0).bind fun t286 => (soundingslaw01_LabelMakes.j1 kj4 t274 t275 t278 t279 (t286 != 0))))) = some r := H
                have A25 := Aside0.mk A250
                clear A250
                replace H := Option.bind_eq_some_iff.mp H
                obtain ⟨t285, A260, H⟩ := H
                replace H : (if (t284 != t285) = true then (soundingslaw01_LabelMakes.j1 kj4 t274 t275 t278 t279 true) else ((soundingsref01_Cmp.f kj4 y271 l0).bind fun t286 => (soundingslaw01_LabelMakes.j1 kj4 t274 t275 t278 t279 (t286 != 0)))) = some r := H
                have A26 := Aside0.mk A260
                clear A260
                by_cases c27 : (t284 != t285) = true
                · rw [if_pos c27] at H
                  have c27b0 : (t284 != t285) = true := c27
                  (try (have c27b1 : decide (t284 = t285) = false := by simpa using c27))
                  (try (have c27b2 : (t284 == t285) = false := by simpa using c27))
                  (try (have c27b3 : ¬ (t284 = t285) := by simpa using c27))
                  clear c27
                  have H' := Aside0.mk H
                  clear H
                  go_wp2_with (first | ((with_reducible refine gate_callee (f := 21) rfl ?_); refine goesL_ (some 34) rfl rfl Tryd.func21 (by kernel_rfl) rfl #[.slice A0 l0.length c0] rfl (by (try simp only [List.map_toArray, List.map_cons, List.map_nil]); first | done | rfl | (simp only [List.length_drop, List.length_take]; rfl)) ?_; (with_reducible refine (label_Right.calls _ _ l0 t282 _ ?side1 ?side2 ⟨hL_.out.below (by repeat (first | (with_reducible first | exact HB.out | apply below_alloc | apply pw_below_drewN | apply below_drew1) | exact HB.out))⟩ A20.out).mono ?_); (case side1 => repeat (first | exact (Kd.C_below HR0.out HB.out) | (with_reducible refine Kd.C_alloc ?_ _) | (with_reducible refine Kd.C_drewN ?_ _) | (with_reducible refine Kd.C_drew ?_))); (case side2 => exact HC0.out); rintro e w28 ⟨rfl, hb⟩; refine ⟨_, rfl, ?_⟩; have n0_ := Aside0.mk (Kd.R_below (by (with_reducible repeat (first | apply Kd.R_alloc | apply Kd.R_drewN | apply Kd.R_drew)); exact HO273.out) hb); have n1_ := Aside0.mk (Kd.R_below (by (with_reducible repeat (first | apply Kd.R_alloc | apply Kd.R_drewN | apply Kd.R_drew)); exact HO277.out) hb); have n2_ := Aside0.mk (Kd.R_below (by (with_reducible repeat (first | apply Kd.R_alloc | apply Kd.R_drewN | apply Kd.R_drew)); exact HO281.out) hb); have n3_ := Aside0.mk (below_step (by repeat (first | (with_reducible first | exact HB.out | apply below_alloc | apply pw_below_drewN | apply below_drew1) | exact HB.out)) hb); clear HO273; clear HO277; clear HO281; clear HB; have HO273 := n0_; have HO277 := n1_; have HO281 := n2_; have HB := n3_; clear n0_ n1_ n2_ n3_; (try clear hb); (try clear hb2); (try clear hk); (try clear hi)) | ((with_reducible refine gate_callee (f := 22) rfl ?_); refine goesL_ (some 36) rfl rfl Tryd.func22 (by kernel_rfl) rfl #[.slice A0 l0.length c0] rfl (by (try simp only [List.map_toArray, List.map_cons, List.map_nil]); first | done | rfl | (simp only [List.length_drop, List.length_take]; rfl)) ?_; (with_reducible refine (soundingsref01_Right.calls _ _ l0 t283 _ ?side1 ?side2 A21.out).mono ?_); (case side1 => repeat (first | exact (Kd.C_below HR0.out HB.out) | (with_reducible refine Kd.C_alloc ?_ _) | (with_reducible refine Kd.C_drewN ?_ _) | (with_reducible refine Kd.C_drew ?_))); (case side2 => exact HC0.out); rintro e w29 ⟨rfl, hb⟩; refine ⟨_, rfl, ?_⟩; have n0_ := Aside0.mk (Kd.R_below (by (with_reducible repeat (first | apply Kd.R_alloc | apply Kd.R_drewN | apply Kd.R_drew)); exact HO273.out) hb); have n1_ := Aside0.mk (Kd.R_below (by (with_reducible repeat (first | apply Kd.R_alloc | apply Kd.R_drewN | apply Kd.R_drew)); exact HO277.out) hb); have n2_ := Aside0.mk (Kd.R_below (by (with_reducible repeat (first | apply Kd.R_alloc | apply Kd.R_drewN | apply Kd.R_drew)); exact HO281.out) hb); have n3_ := Aside0.mk (below_step (by repeat (first | (with_reducible first | exact HB.out | apply below_alloc | apply pw_below_drewN | apply below_drew1) | exact HB.out)) hb); clear HO273; clear HO277; clear HO281; clear HB; have HO273 := n0_; have HO277 := n1_; have HO281 := n2_; have HB := n3_; clear n0_ n1_ n2_ n3_; (try clear hb); (try clear hb2); (try clear hk); (try clear hi)) | (go_at_call 23; (with_reducible refine (label_IsName.calls kj4 a1 t284 _ A25.out).mono ?_); rintro e w' ⟨rfl, ⟨nd, rfl⟩⟩) | (go_at_call 24; (with_reducible refine (soundingsref01_IsName.calls kj4 a1 t285 _ A26.out).mono ?_); rintro e w' ⟨rfl, ⟨nd, rfl⟩⟩))
                  go_meet
                  case rel => exact ⟨_, (true), (by first | rfl | (simp; done) | (simp [*]; done)), H', ⟨by have := HJ4.out; first | omega | exact Nat.le_refl _⟩, ⟨by (with_reducible repeat (first | apply Kd.R_alloc | apply Kd.R_drewN | apply Kd.R_drew)); exact Kd.R_mono HO277.out (fun _ hk => hk.2)⟩, ⟨by (with_reducible repeat (first | apply Kd.R_alloc | apply Kd.R_drewN | apply Kd.R_drew)); exact Kd.R_mono HO281.out (fun _ hk => hk.2)⟩, ⟨by repeat (first | (with_reducible first | exact HB.out | apply below_alloc | apply pw_below_drewN | apply below_drew1) | exact HB.out)⟩⟩
                · rw [if_neg c27] at H
                  have c27b0 : (t284 != t285) = false := by simpa using c27
                  (try (have c27b1 : decide (t284 = t285) = true := by simpa using c27))
                  (try (have c27b2 : (t284 == t285) = true := by simpa using c27))
                  clear c27
                  replace H := Option.bind_eq_some_iff.mp H
                  obtain ⟨t286, A300, H⟩ := H
                  replace H : (soundingslaw01_LabelMakes.j1 kj4 t274 t275 t278 t279 (t286 != 0)) = some r := H
                  have A30 := Aside0.mk A300
                  clear A300
                  have H' := Aside0.mk H
                  clear H
                  go_wp2_with (first | ((with_reducible refine gate_callee (f := 21) rfl ?_); refine goesL_ (some 34) rfl rfl Tryd.func21 (by kernel_rfl) rfl #[.slice A0 l0.length c0] rfl (by (try simp only [List.map_toArray, List.map_cons, List.map_nil]); first | done | rfl | (simp only [List.length_drop, List.length_take]; rfl)) ?_; (with_reducible refine (label_Right.calls _ _ l0 t282 _ ?side1 ?side2 ⟨hL_.out.below (by repeat (first | (with_reducible first | exact HB.out | apply below_alloc | apply pw_below_drewN | apply below_drew1) | exact HB.out))⟩ A20.out).mono ?_); (case side1 => repeat (first | exact (Kd.C_below HR0.out HB.out) | (with_reducible refine Kd.C_alloc ?_ _) | (with_reducible refine Kd.C_drewN ?_ _) | (with_reducible refine Kd.C_drew ?_))); (case side2 => exact HC0.out); rintro e w31 ⟨rfl, hb⟩; refine ⟨_, rfl, ?_⟩; have n0_ := Aside0.mk (Kd.R_below (by (with_reducible repeat (first | apply Kd.R_alloc | apply Kd.R_drewN | apply Kd.R_drew)); exact HO273.out) hb); have n1_ := Aside0.mk (Kd.R_below (by (with_reducible repeat (first | apply Kd.R_alloc | apply Kd.R_drewN | apply Kd.R_drew)); exact HO277.out) hb); have n2_ := Aside0.mk (Kd.R_below (by (with_reducible repeat (first | apply Kd.R_alloc | apply Kd.R_drewN | apply Kd.R_drew)); exact HO281.out) hb); have n3_ := Aside0.mk (below_step (by repeat (first | (with_reducible first | exact HB.out | apply below_alloc | apply pw_below_drewN | apply below_drew1) | exact HB.out)) hb); clear HO273; clear HO277; clear HO281; clear HB; have HO273 := n0_; have HO277 := n1_; have HO281 := n2_; have HB := n3_; clear n0_ n1_ n2_ n3_; (try clear hb); (try clear hb2); (try clear hk); (try clear hi)) | ((with_reducible refine gate_callee (f := 22) rfl ?_); refine goesL_ (some 36) rfl rfl Tryd.func22 (by kernel_rfl) rfl #[.slice A0 l0.length c0] rfl (by (try simp only [List.map_toArray, List.map_cons, List.map_nil]); first | done | rfl | (simp only [List.length_drop, List.length_take]; rfl)) ?_; (with_reducible refine (soundingsref01_Right.calls _ _ l0 t283 _ ?side1 ?side2 A21.out).mono ?_); (case side1 => repeat (first | exact (Kd.C_below HR0.out HB.out) | (with_reducible refine Kd.C_alloc ?_ _) | (with_reducible refine Kd.C_drewN ?_ _) | (with_reducible refine Kd.C_drew ?_))); (case side2 => exact HC0.out); rintro e w32 ⟨rfl, hb⟩; refine ⟨_, rfl, ?_⟩; have n0_ := Aside0.mk (Kd.R_below (by (with_reducible repeat (first | apply Kd.R_alloc | apply Kd.R_drewN | apply Kd.R_drew)); exact HO273.out) hb); have n1_ := Aside0.mk (Kd.R_below (by (with_reducible repeat (first | apply Kd.R_alloc | apply Kd.R_drewN | apply Kd.R_drew)); exact HO277.out) hb); have n2_ := Aside0.mk (Kd.R_below (by (with_reducible repeat (first | apply Kd.R_alloc | apply Kd.R_drewN | apply Kd.R_drew)); exact HO281.out) hb); have n3_ := Aside0.mk (below_step (by repeat (first | (with_reducible first | exact HB.out | apply below_alloc | apply pw_below_drewN | apply below_drew1) | exact HB.out)) hb); clear HO273; clear HO277; clear HO281; clear HB; have HO273 := n0_; have HO277 := n1_; have HO281 := n2_; have HB := n3_; clear n0_ n1_ n2_ n3_; (try clear hb); (try clear hb2); (try clear hk); (try clear hi)) | (go_at_call 23; (with_reducible refine (label_IsName.calls kj4 a1 t284 _ A25.out).mono ?_); rintro e w' ⟨rfl, ⟨nd, rfl⟩⟩) | (go_at_call 24; (with_reducible refine (soundingsref01_IsName.calls kj4 a1 t285 _ A26.out).mono ?_); rintro e w' ⟨rfl, ⟨nd, rfl⟩⟩) | (go_at_call 25; (with_reducible refine (soundingsref01_Cmp.calls kj4 _ _ y271 _ _ l0 t286 _ ?side1 ?side2 ?side3 ?side4 A30.out).mono ?_); (case side1 => repeat (first | exact (Kd.R_reads' HO273.out).2.2 | (with_reducible refine Kd.C_alloc ?_ _) | (with_reducible refine Kd.C_drewN ?_ _) | (with_reducible refine Kd.C_drew ?_))); (case side2 => exact (Kd.R_reads' HO273.out).2.1); (case side3 => repeat (first | exact (Kd.C_below HR0.out (by repeat (first | (with_reducible first | exact HB.out | apply below_alloc | apply pw_below_drewN | apply below_drew1) | exact HB.out))) | (with_reducible refine Kd.C_alloc ?_ _) | (with_reducible refine Kd.C_drewN ?_ _) | (with_reducible refine Kd.C_drew ?_))); (case side4 => exact HC0.out); rintro e w' ⟨rfl, ⟨nd, rfl⟩⟩))
                  go_meet
                  case rel => exact ⟨_, ((t286 != 0)), (by first | rfl | (simp; done) | (simp [*]; done)), H', ⟨by have := HJ4.out; first | omega | exact Nat.le_refl _⟩, ⟨by (with_reducible repeat (first | apply Kd.R_alloc | apply Kd.R_drewN | apply Kd.R_drew)); exact Kd.R_mono HO277.out (fun _ hk => hk.2)⟩, ⟨by (with_reducible repeat (first | apply Kd.R_alloc | apply Kd.R_drewN | apply Kd.R_drew)); exact Kd.R_mono HO281.out (fun _ hk => hk.2)⟩, ⟨by repeat (first | (with_reducible first | exact HB.out | apply below_alloc | apply pw_below_drewN | apply below_drew1) | exact HB.out)⟩⟩
            case rest =>
              clear HC13
              try clear c1
              try clear c2
              try clear p2
              try clear c4
              try clear c8
              try clear c9
              try clear c10
              try clear c17
              try clear c18
              try clear c19
              try clear c20
              try clear c21
              try clear c22
              try clear c22b0
              try clear c22b1
              try clear c22b2
              try clear c27
              try clear c27b0
              try clear c27b1
              try clear c27b2
              try clear p2
              obtain ⟨kq, x50_12, rfl, HA, HJ12, HO_6, HO_8, HB⟩ := hcut
              cases kq with
              | zero => exact absurd HA.out (by simp [soundingslaw01_LabelMakes.j1])
              | succ kj12 =>
                have H := HA.out
                clear HA
                simp only [soundingslaw01_LabelMakes.j1] at H
                by_cases c33 : x50_12 = true
                · subst c33
                  have H1 : (some false) = some r := by rw [if_pos rfl] at H; exact H
                  clear H
                  have H := H1
                  clear H1
                  obtain rfl := Option.some.inj H
                  go_wp2
                  go_ret
                  exact ⟨by first | rfl | (simp [errW_none, errW_some] <;> rfl) | (simp [*, errW_none, errW_some] <;> rfl), by repeat (first | (with_reducible first | exact HB.out | apply below_alloc | apply pw_below_drewN | apply below_drew1) | exact HB.out)⟩
                · replace c33 := Bool.eq_false_iff.mpr c33
                  subst c33
                  have H1 : (if t279 = true then (if t275.isNone = true then ((soundingsref01_Cmp.f kj12 t274 t278).bind fun t288 => (if t288 = 0 then ((label_Right.f t274).bind fun t289 => (some t289)) else (some false))) else (some false)) else ((soundingslaw01_Code.f t275).bind fun t290 => (if t290 = 1 then (some ((t274.length : Int) == 0)) else (some false)))) = some r := by rw [if_neg (show ¬ (false = true) by decide)] at H; exact H
                  clear H
                  have H := H1
                  clear H1
                  by_cases c34 : t279 = true
                  · subst c34
                    have H1 : (if t275.isNone = true then ((soundingsref01_Cmp.f kj12 t274 t278).bind fun t288 => (if t288 = 0 then ((label_Right.f t274).bind fun t289 => (some t289)) else (some false))) else (some false)) = some r := by rw [if_pos rfl] at H; exact H
                    clear H
                    have H := H1
                    clear H1
                    rcases t275 with _ | q287
                    · have H1 : ((soundingsref01_Cmp.f kj12 t274 t278).bind fun t288 => (if t288 = 0 then ((label_Right.f t274).bind fun t289 => (some t289)) else (some false))) = some r := by rw [if_pos (show (none : Option Int).isNone = true by rfl)] at H; exact H
                      clear H
                      have H := H1
                      clear H1
                      try simp only [errW_none, errW_some]
                      replace H := Option.bind_eq_some_iff.mp H
                      obtain ⟨t288, A350, H⟩ := H
                      replace H : (if t288 = 0 then ((label_Right.f t274).bind fun t289 => (some t289)) else (some false)) = some r := H
                      have A35 := Aside0.mk A350
                      clear A350
                      by_cases c36 : t288 = 0
                      · rw [if_pos c36] at H
                        have c36b0 : (t288 == 0) = true := beq_iff_eq.mpr c36
                        have c36b1 : (t288 != 0) = false := bne_eq_false_iff_eq.mpr c36
                        clear c36
                        replace H := Option.bind_eq_some_iff.mp H
                        obtain ⟨t289, A370, H⟩ := H
                        replace H : (some t289) = some r := H
                        have A37 := Aside0.mk A370
                        clear A370
                        obtain rfl := Option.some.inj H
                        obtain ⟨Ao38, co38, eo38⟩ := Kd.R_slice HO_6.out
                        subst eo38
                        obtain ⟨Ao39, co39, eo39⟩ := Kd.R_slice HO_8.out
                        subst eo39
                        go_wp2_with (first | (go_at_call 25; (with_reducible refine (soundingsref01_Cmp.calls kj12 _ _ t274 _ _ t278 t288 _ ?side1 ?side2 ?side3 ?side4 A35.out).mono ?_); (case side1 => repeat (first | exact (Kd.R_reads' HO_6.out).2.2 | (with_reducible refine Kd.C_alloc ?_ _) | (with_reducible refine Kd.C_drewN ?_ _) | (with_reducible refine Kd.C_drew ?_))); (case side2 => exact (Kd.R_reads' HO_6.out).2.1); (case side3 => repeat (first | exact (Kd.R_reads' HO_8.out).2.2 | (with_reducible refine Kd.C_alloc ?_ _) | (with_reducible refine Kd.C_drewN ?_ _) | (with_reducible refine Kd.C_drew ?_))); (case side4 => exact (Kd.R_reads' HO_8.out).2.1); rintro e w' ⟨rfl, ⟨nd, rfl⟩⟩) | (go_at_call 21; (with_reducible refine (label_Right.calls _ _ t274 t289 _ ?side1 ?side2 ⟨hL_.out.below (by repeat (first | (with_reducible first | exact HB.out | apply below_alloc | apply pw_below_drewN | apply below_drew1) | exact HB.out))⟩ A37.out).mono ?_); (case side1 => repeat (first | exact (Kd.R_reads' HO_6.out).2.2 | (with_reducible refine Kd.C_alloc ?_ _) | (with_reducible refine Kd.C_drewN ?_ _) | (with_reducible refine Kd.C_drew ?_))); (case side2 => exact (Kd.R_reads' HO_6.out).2.1); rintro e w40 ⟨rfl, hb⟩; have n0_ := Aside0.mk (Kd.R_below (by (with_reducible repeat (first | apply Kd.R_alloc | apply Kd.R_drewN | apply Kd.R_drew)); exact HO_6.out) hb); have n1_ := Aside0.mk (Kd.R_below (by (with_reducible repeat (first | apply Kd.R_alloc | apply Kd.R_drewN | apply Kd.R_drew)); exact HO_8.out) hb); have n2_ := Aside0.mk (below_step (by repeat (first | (with_reducible first | exact HB.out | apply below_alloc | apply pw_below_drewN | apply below_drew1) | exact HB.out)) hb); clear HO_6; clear HO_8; clear HB; have HO_6 := n0_; have HO_8 := n1_; have HB := n2_; clear n0_ n1_ n2_; (try clear hb); (try clear hb2); (try clear hk); (try clear hi)))
                        go_ret
                        exact ⟨by first | rfl | (simp [errW_none, errW_some] <;> rfl) | (simp [*, errW_none, errW_some] <;> rfl), by repeat (first | (with_reducible first | exact HB.out | apply below_alloc | apply pw_below_drewN | apply below_drew1) | exact HB.out)⟩
                      · rw [if_neg c36] at H
                        have c36b0 : (t288 == 0) = false := beq_eq_false_iff_ne.mpr c36
                        have c36b1 : (t288 != 0) = true := bne_iff_ne.mpr c36
                        obtain rfl := Option.some.inj H
                        obtain ⟨Ao41, co41, eo41⟩ := Kd.R_slice HO_6.out
                        subst eo41
                        obtain ⟨Ao42, co42, eo42⟩ := Kd.R_slice HO_8.out
                        subst eo42
                        go_wp2_with (first | (go_at_call 25; (with_reducible refine (soundingsref01_Cmp.calls kj12 _ _ t274 _ _ t278 t288 _ ?side1 ?side2 ?side3 ?side4 A35.out).mono ?_); (case side1 => repeat (first | exact (Kd.R_reads' HO_6.out).2.2 | (with_reducible refine Kd.C_alloc ?_ _) | (with_reducible refine Kd.C_drewN ?_ _) | (with_reducible refine Kd.C_drew ?_))); (case side2 => exact (Kd.R_reads' HO_6.out).2.1); (case side3 => repeat (first | exact (Kd.R_reads' HO_8.out).2.2 | (with_reducible refine Kd.C_alloc ?_ _) | (with_reducible refine Kd.C_drewN ?_ _) | (with_reducible refine Kd.C_drew ?_))); (case side4 => exact (Kd.R_reads' HO_8.out).2.1); rintro e w' ⟨rfl, ⟨nd, rfl⟩⟩))
                        go_ret
                        exact ⟨by first | rfl | (simp [errW_none, errW_some] <;> rfl) | (simp [*, errW_none, errW_some] <;> rfl), by repeat (first | (with_reducible first | exact HB.out | apply below_alloc | apply pw_below_drewN | apply below_drew1) | exact HB.out)⟩
                    · have H1 : (some false) = some r := by rw [if_neg (show ¬ (some q287).isNone = true by simp)] at H; exact H
                      clear H
                      have H := H1
                      clear H1
                      try simp only [errW_none, errW_some]
                      obtain rfl := Option.some.inj H
                      go_wp2
                      go_ret
                      exact ⟨by first | rfl | (simp [errW_none, errW_some] <;> rfl) | (simp [*, errW_none, errW_some] <;> rfl), by repeat (first | (with_reducible first | exact HB.out | apply below_alloc | apply pw_below_drewN | apply below_drew1) | exact HB.out)⟩
                  · replace c34 := Bool.eq_false_iff.mpr c34
                    subst c34
                    have H1 : ((soundingslaw01_Code.f t275).bind fun t290 => (if t290 = 1 then (some ((t274.length : Int) == 0)) else (some false))) = some r := by rw [if_neg (show ¬ (false = true) by decide)] at H; exact H
                    clear H
                    have H := H1
                    clear H1
                    replace H := Option.bind_eq_some_iff.mp H
                    obtain ⟨t290, A430, H⟩ := H
                    replace H : (if t290 = 1 then (some ((t274.length : Int) == 0)) else (some false)) = some r := H
                    have A43 := Aside0.mk A430
                    clear A430
                    by_cases c44 : t290 = 1
                    · rw [if_pos c44] at H
                      have c44b0 : (t290 == 1) = true := beq_iff_eq.mpr c44
                      have c44b1 : (t290 != 1) = false := bne_eq_false_iff_eq.mpr c44
                      clear c44
                      obtain rfl := Option.some.inj H
                      have CA43 := fun W hp_ => soundingslaw01_Code.calls t275 t290 W hp_ A43.out
                      try simp only [errW_none, errW_some] at CA43
                      go_wp2_with (first | (go_at_call 16; (with_reducible refine (CA43 _ ⟨hL_.out.below (by repeat (first | (with_reducible first | exact HB.out | apply below_alloc | apply pw_below_drewN | apply below_drew1) | exact HB.out))⟩).mono ?_); rintro e w45 ⟨rfl, hb⟩; have n0_ := Aside0.mk (Kd.R_below (by (with_reducible repeat (first | apply Kd.R_alloc | apply Kd.R_drewN | apply Kd.R_drew)); exact HO_6.out) hb); have n1_ := Aside0.mk (Kd.R_below (by (with_reducible repeat (first | apply Kd.R_alloc | apply Kd.R_drewN | apply Kd.R_drew)); exact HO_8.out) hb); have n2_ := Aside0.mk (below_step (by repeat (first | (with_reducible first | exact HB.out | apply below_alloc | apply pw_below_drewN | apply below_drew1) | exact HB.out)) hb); clear HO_6; clear HO_8; clear HB; have HO_6 := n0_; have HO_8 := n1_; have HB := n2_; clear n0_ n1_ n2_; (try clear hb); (try clear hb2); (try clear hk); (try clear hi); obtain ⟨Ao46, co46, eo46⟩ := Kd.R_slice HO_6.out; subst eo46))
                      go_ret
                      exact ⟨by first | rfl | (simp [errW_none, errW_some] <;> rfl) | (simp [*, errW_none, errW_some] <;> rfl), by repeat (first | (with_reducible first | exact HB.out | apply below_alloc | apply pw_below_drewN | apply below_drew1) | exact HB.out)⟩
                    · rw [if_neg c44] at H
                      have c44b0 : (t290 == 1) = false := beq_eq_false_iff_ne.mpr c44
                      have c44b1 : (t290 != 1) = true := bne_iff_ne.mpr c44
                      obtain rfl := Option.some.inj H
                      have CA43 := fun W hp_ => soundingslaw01_Code.calls t275 t290 W hp_ A43.out
                      try simp only [errW_none, errW_some] at CA43
                      go_wp2_with (first | (go_at_call 16; (with_reducible refine (CA43 _ ⟨hL_.out.below (by repeat (first | (with_reducible first | exact HB.out | apply below_alloc | apply pw_below_drewN | apply below_drew1) | exact HB.out))⟩).mono ?_); rintro e w47 ⟨rfl, hb⟩; have n0_ := Aside0.mk (Kd.R_below (by (with_reducible repeat (first | apply Kd.R_alloc | apply Kd.R_drewN | apply Kd.R_drew)); exact HO_6.out) hb); have n1_ := Aside0.mk (Kd.R_below (by (with_reducible repeat (first | apply Kd.R_alloc | apply Kd.R_drewN | apply Kd.R_drew)); exact HO_8.out) hb); have n2_ := Aside0.mk (below_step (by repeat (first | (with_reducible first | exact HB.out | apply below_alloc | apply pw_below_drewN | apply below_drew1) | exact HB.out)) hb); clear HO_6; clear HO_8; clear HB; have HO_6 := n0_; have HO_8 := n1_; have HB := n2_; clear n0_ n1_ n2_; (try clear hb); (try clear hb2); (try clear hk); (try clear hi)))
                      go_ret
                      exact ⟨by first | rfl | (simp [errW_none, errW_some] <;> rfl) | (simp [*, errW_none, errW_some] <;> rfl), by repeat (first | (with_reducible first | exact HB.out | apply below_alloc | apply pw_below_drewN | apply below_drew1) | exact HB.out)⟩
          · rw [if_neg c10] at H
            exact absurd H (by simp)
  · replace c4 := Bool.eq_false_iff.mpr c4
    subst c4
    have H1 : (some false) = some r := by rw [if_neg (show ¬ (false = true) by decide)] at H; exact H
    clear H
    have H := H1
    clear H1
    obtain rfl := Option.some.inj H
    go_enter Tryd.func4, Tryd.ntmps4
    go_wp2_with (first | ((with_reducible refine gate_callee (f := 17) rfl ?_); refine goesL_ (some 10) rfl rfl Tryd.func17 (by kernel_rfl) rfl #[] rfl (by (try simp only [List.map_toArray, List.map_cons, List.map_nil]); first | done | rfl | (simp only [List.length_drop, List.length_take]; rfl)) ?_; (with_reducible refine (soundingslaw01_awake.calls k  false _ ⟨hL_.out.below (by repeat (first | (with_reducible first | exact HB.out | apply below_alloc | apply pw_below_drewN | apply below_drew1) | exact HB.out))⟩ A3.out).mono ?_); rintro e w48 ⟨rfl, hb⟩; refine ⟨_, rfl, ?_⟩; have n0_ := Aside0.mk (below_step (by repeat (first | (with_reducible first | exact HB.out | apply below_alloc | apply pw_below_drewN | apply below_drew1) | exact HB.out)) hb); clear HB; have HB := n0_; clear n0_; (try clear hb); (try clear hb2); (try clear hk); (try clear hi)))
    go_ret
    exact ⟨by first | rfl | (simp [errW_none, errW_some] <;> rfl) | (simp [*, errW_none, errW_some] <;> rfl), by repeat (first | (with_reducible first | exact HB.out | apply below_alloc | apply pw_below_drewN | apply below_drew1) | exact HB.out)⟩

end Go.Proofs.YtfbockgjhbfidaaDoor.Pr
