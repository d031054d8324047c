/- Texts of this session, cut down to what one claim needs and joined: PrSoundingsref05Copy, PrSoundingsref05Find, StRefP. -/
import Derived.Test.YtfbockgjhbfidaaGreatDoorQPr0
import Derived.Test.YtfbockgjhbfidaaGreatDoorQGPr
import Derived.Test.YtfbockgjhbfidaaGreatDoorQStRefA
import Derived.Test.YtfbockgjhbfidaaGreatDoorQGPureQ
section
-- Written by a program of this session (wip/hook.py) out of the translation. Not trusted: Lean checks it.
namespace Go.Proofs.YtfbockgjhbfidaaGreatDoor.Pr
open Go.RowKit Go.Proofs.YtfbockgjhbfidaaGreatDoorW.PrintWords Go.Proofs.YtfbockgjhbfidaaGreatDoorW.PrintLast Go.Proofs.YtfbockgjhbfidaaGreatDoorW.PrintMore
attribute [local go_sem] max2_int min2_int max_two min_two max_three min_three max_four min_four   -- for this text's walks alone
set_option linter.unusedVariables false
set_option linter.unusedSimpArgs false

/-! ### soundingsref05_Copy: function 7 -/
def soundingsref05_Copy.l0 : Nat → List (S47) → List (S47) → Int → Option ((List (S47)))
 | 0, _, _, _ => none
 | k + 1, x0, x3, x4 => if x4 < (x0.length : Int) then ((some (([] : List (S44)) : List (S44))).bind fun y156 => (if 0 ≤ x4 then (if y156.length + ((rd_T47 x0 x4).f0).length < 4398046511104 then ((some (([] : List (S26)) : List (S26))).bind fun y163 => (if y163.length + ((rd_T47 x0 x4).f1).length < 8796093022208 then (if x3.length < 2932031007402 then (soundingsref05_Copy.l0 k x0 (x3 ++ [(⟨(y156 ++ ((rd_T47 x0 x4).f0)), (y163 ++ ((rd_T47 x0 x4).f1))⟩ : S47)]) (wrap64 (x4 + 1))) else (none)) else (none))) else (none)) else (none))) else (some x3)
def soundingsref05_Copy.f (k : Nat) (l0 : List (S47)) : Option ((List (S47))) := soundingsref05_Copy.l0 k l0 ([] : List (S47)) 0
theorem soundingsref05_Copy.mono_l : ∀ k, (∀ y0 y1 y2, LeO (soundingsref05_Copy.l0 k y0 y1 y2) (soundingsref05_Copy.l0 (k + 1) y0 y1 y2))
 | 0 => fun _ _ _ r h => by simp [soundingsref05_Copy.l0] at h
 | k + 1 => by
  have ih0 := soundingsref05_Copy.mono_l k
  ·intro y0 y1 y2
   unfold soundingsref05_Copy.l0
   repeat' first
   | (with_reducible exact ih0 _ _ _)
   | (with_reducible exact LeO.refl _)
   | (with_reducible exact LeO.none _)
   | (with_reducible refine LeO.ite ?_ ?_)
   | (with_reducible refine LeO.bind ?_ (fun _ => ?_))
   | exact ih0 _ _ _
   | exact LeO.none _
   | refine LeO.ite ?_ ?_
   | refine LeO.bind ?_ (fun _ => ?_)
theorem soundingsref05_Copy.mono : ∀ a0 k, LeO (soundingsref05_Copy.f k a0) (soundingsref05_Copy.f (k + 1) a0) := by
 intro a0 k
 have ih0 := soundingsref05_Copy.mono_l k
 unfold soundingsref05_Copy.f
 repeat' first
   | (with_reducible exact ih0 _ _ _)
   | (with_reducible exact LeO.refl _)
   | (with_reducible exact LeO.none _)
   | (with_reducible refine LeO.ite ?_ ?_)
   | (with_reducible refine LeO.bind ?_ (fun _ => ?_))
   | exact ih0 _ _ _
   | exact LeO.none _
   | refine LeO.ite ?_ ?_
   | refine LeO.bind ?_ (fun _ => ?_)
def soundingsref05_Copy.T5 : Bool × List (List Nat × List Nat) := (true, [([], []), ([], []), ([], []), ([], []), ([2, 3], [2, 3]), ([4], [4]), ([5], [5]), ([1, 6], [1, 6]), ([], []), ([], []), ([], []), ([9, 10], [9, 10]), ([11], [11]), ([12], [12]), ([8, 13, 7], [8, 13]), ([7, 14], [7, 14]), ([15], [15]), ([0, 16, 14], [0, 16]), ([17, 17, 0, 1, 2, 3, 4, 5, 6, 7, 8, 9, 10, 11, 12, 13, 14, 15, 16, 17], [0, 17])])
def soundingsref05_Copy.B5 : List Nat := [0, 0, 0, 0, 12, 28, 60, 126, 0, 0, 0, 1536, 3584, 7680, 16382, 32766, 65534, 131071, 262143]
theorem soundingsref05_Copy.tab5 : rtab .any (opsOf Tryz.f7 5) = soundingsref05_Copy.T5 := by kernel_rfl
theorem soundingsref05_Copy.bits5 : waitsOk soundingsref05_Copy.T5.2 soundingsref05_Copy.B5 = true := by kernel_rfl
set_option maxHeartbeats 8000000 in
set_option maxRecDepth 100000 in
theorem soundingsref05_Copy.calls (k : Nat) (A0 : Option Addr) (c0 : Nat) (l0 : List (S47)) (r : List (S47)) (w : World) (hr0 : Kd.C k47 w A0 l0.length l0) (hc0 : l0.length ≤ c0) (h : soundingsref05_Copy.f k l0 = some r) :
  Calls Tryz.prog 7 #[.slice A0 l0.length c0] w fun e w' => ∃ v0_ : Value, e = .returned (v0_) ∧ Kd.S k47 47 w' w.heap.size (fun _ => True) v0_ r ∧ Below w.heap.size w w' := by
 have hu47 := Tryz.underlying47
 have HR0 := Aside0.mk hr0
 have HC0 := Aside0.mk hc0
 clear hr0 hc0
 have HB := Aside0.mk (Below.refl w.heap.size w)
 have H : (soundingsref05_Copy.l0 k l0 ([] : List (S47)) 0) = some r := h
 clear h
 have H' := Aside0.mk H
 clear H
 go_enter Tryz.func7, Tryz.ntmps7
 go_wp2
 go_loopg [3, 4] k (fun kq v3 v4 w' => ∃ (x3_1 : List (S47)) (x4_1 : Int), v4 = .int .i64 x4_1 ∧ Aside0 (soundingsref05_Copy.l0 kq l0 x3_1 x4_1 = some r) ∧ Aside0 (kq ≤ k) ∧ Aside0 (Kd.S k47 47 w' w.heap.size (fun _ => True) v3 x3_1) ∧ Aside0 (Below w.heap.size w w'))
 case atStart => exact ⟨(([] : List (S47))), (0), (by first | rfl | (simp; done) | (simp [*]; done)), H', ⟨Nat.le_refl _⟩, ⟨by first | exact Kd.S_nil _ _ _ _ _ | exact Kd.N_nil _ _ _ _ _ | exact Kd.V_nil _ _ _ _ _ | exact Kd.Q_nil _ _ _ _ _ | exact Kd.R_nil _ _ _ _ _⟩, ⟨by repeat (first | (with_reducible first | exact HB.out | apply below_alloc | apply pw_below_drewN | apply below_drew1) | exact HB.out)⟩⟩
 case round =>
  clear H'
  obtain ⟨x3_1, x4_1, rfl, HA, HK1, HO_3, HB⟩ := hrel
  cases gk with
  | zero => exact absurd HA.out (by simp [soundingsref05_Copy.l0])
  | succ k1 =>
   have H := HA.out
   clear HA
   simp only [soundingsref05_Copy.l0] at H
   by_cases c2 : x4_1 < (l0.length : Int)
   ·rw [if_pos c2] at H
    have c2b0 : decide (x4_1 < (l0.length : Int)) = true := decide_eq_true c2
    clear c2
    obtain ⟨y156, hy156⟩ : ∃ y_ : List (S44), y_ = (([] : List (S44))) := ⟨_, rfl⟩
    replace H : (if 0 ≤ x4_1 then (if y156.length + ((rd_T47 l0 x4_1).f0).length < 4398046511104 then ((some (([] : List (S26)) : List (S26))).bind fun y163 => (if y163.length + ((rd_T47 l0 x4_1).f1).length < 8796093022208 then (if x3_1.length < 2932031007402 then (soundingsref05_Copy.l0 k1 l0 (x3_1 ++ [(⟨(y156 ++ ((rd_T47 l0 x4_1).f0)), (y163 ++ ((rd_T47 l0 x4_1).f1))⟩ : S47)]) (wrap64 (x4_1 + 1))) else (none)) else (none))) else (none)) else (none)) = some r := by first | (rw [hy156]; with_reducible exact H) | (have H2_ := (Option.bind_some _ _).symm.trans H; rw [hy156]; with_reducible exact H2_) | (have H2_ := (Option.bind_some _ _).symm.trans H; with_reducible exact H2_) | with_reducible exact H | (rw [hy156]; exact H) | exact H
    have Ny156 := Aside0.mk hy156
    clear hy156
    by_cases c3 : 0 ≤ x4_1
    ·rw [if_pos c3] at H
     have c3b0 : decide (0 ≤ x4_1) = true := decide_eq_true c3
     clear c3
     by_cases c4 : y156.length + ((rd_T47 l0 x4_1).f0).length < 4398046511104
     ·rw [if_pos c4] at H
      have LMc4 := Aside0.mk c4
      clear c4
      obtain ⟨y160, hy160⟩ : ∃ y_ : List (S44), y_ = (y156 ++ ((rd_T47 l0 x4_1).f0)) := ⟨_, rfl⟩
      replace H : ((some (([] : List (S26)) : List (S26))).bind fun y163 => (if y163.length + ((rd_T47 l0 x4_1).f1).length < 8796093022208 then (if x3_1.length < 2932031007402 then (soundingsref05_Copy.l0 k1 l0 (x3_1 ++ [(⟨y160, (y163 ++ ((rd_T47 l0 x4_1).f1))⟩ : S47)]) (wrap64 (x4_1 + 1))) else (none)) else (none))) = some r := by first | (rw [hy160]; with_reducible exact H) | (have H2_ := (Option.bind_some _ _).symm.trans H; rw [hy160]; with_reducible exact H2_) | (have H2_ := (Option.bind_some _ _).symm.trans H; with_reducible exact H2_) | with_reducible exact H | (rw [hy160]; exact H) | exact H
      have Ny160 := Aside0.mk hy160
      clear hy160
      obtain ⟨y163, hy163⟩ : ∃ y_ : List (S26), y_ = (([] : List (S26))) := ⟨_, rfl⟩
      replace H : (if y163.length + ((rd_T47 l0 x4_1).f1).length < 8796093022208 then (if x3_1.length < 2932031007402 then (soundingsref05_Copy.l0 k1 l0 (x3_1 ++ [(⟨y160, (y163 ++ ((rd_T47 l0 x4_1).f1))⟩ : S47)]) (wrap64 (x4_1 + 1))) else (none)) else (none)) = some r := by first | (rw [hy163]; with_reducible exact H) | (have H2_ := (Option.bind_some _ _).symm.trans H; rw [hy163]; with_reducible exact H2_) | (have H2_ := (Option.bind_some _ _).symm.trans H; with_reducible exact H2_) | with_reducible exact H | (rw [hy163]; exact H) | exact H
      have Ny163 := Aside0.mk hy163
      clear hy163
      by_cases c5 : y163.length + ((rd_T47 l0 x4_1).f1).length < 8796093022208
      ·rw [if_pos c5] at H
       have LMc5 := Aside0.mk c5
       clear c5
       obtain ⟨y167, hy167⟩ : ∃ y_ : List (S26), y_ = (y163 ++ ((rd_T47 l0 x4_1).f1)) := ⟨_, rfl⟩
       replace H : (if x3_1.length < 2932031007402 then (soundingsref05_Copy.l0 k1 l0 (x3_1 ++ [(⟨y160, y167⟩ : S47)]) (wrap64 (x4_1 + 1))) else (none)) = some r := by first | (rw [hy167]; with_reducible exact H) | (have H2_ := (Option.bind_some _ _).symm.trans H; rw [hy167]; with_reducible exact H2_) | (have H2_ := (Option.bind_some _ _).symm.trans H; with_reducible exact H2_) | with_reducible exact H | (rw [hy167]; exact H) | exact H
       have Ny167 := Aside0.mk hy167
       clear hy167
       by_cases c6 : x3_1.length < 2932031007402
       ·rw [if_pos c6] at H
        have LMc6 := Aside0.mk c6
        clear c6
        obtain ⟨y170, hy170⟩ : ∃ y_ : List (S47), y_ = (x3_1 ++ [(⟨y160, y167⟩ : S47)]) := ⟨_, rfl⟩
        replace H : (soundingsref05_Copy.l0 k1 l0 y170 (wrap64 (x4_1 + 1))) = some r := by first | (rw [hy170]; with_reducible exact H) | (have H2_ := (Option.bind_some _ _).symm.trans H; rw [hy170]; with_reducible exact H2_) | (have H2_ := (Option.bind_some _ _).symm.trans H; with_reducible exact H2_) | with_reducible exact H | (rw [hy170]; exact H) | exact H
        have Ny170 := Aside0.mk hy170
        clear hy170
        have H' := Aside0.mk H
        clear H
        obtain ⟨Ao7, co7, eo7⟩ := Kd.S_slice HO_3.out
        subst eo7
        try go_wp2
        have n0_ := Aside0.mk (Kd.S_drew HO_3.out)
        have n1_ := Aside0.mk (below_drew1 HB.out)
        clear HO_3
        clear HB
        have HO_3 := n0_
        have HB := n1_
        clear n0_ n1_
        have p159 : 0 ≤ (x4_1 : Int) := of_decide_eq_true (by first | (with_reducible assumption) | assumption)
        have q159 : x4_1 < (l0.length : Int) := of_decide_eq_true (by first | (with_reducible assumption) | assumption)
        obtain ⟨ad159, A159_0, c159_0, A159_1, c159_1, e159, hx159_0, hx159_1, hl159_0, hi159_0, hl159_1, hi159_1⟩ := at_T47 HR0.out x4_1 p159 q159
        have hw159_1 := hx159_1
        have hw159_0 := hx159_0
        cases e159
        replace hx159_0 := (HB.out.cell (World.block_lt_of_cell? w _ hx159_0)).trans hx159_0
        replace hx159_1 := (HB.out.cell (World.block_lt_of_cell? w _ hx159_1)).trans hx159_1
        have HR159_0 := Aside0.mk hi159_0
        have HC159_0 := Aside0.mk hl159_0
        clear hi159_0 hl159_0
        have HR159_1 := Aside0.mk hi159_1
        have HC159_1 := Aside0.mk hl159_1
        clear hi159_1 hl159_1
        replace p159 := eq_true p159
        replace q159 := eq_true q159
        have p166 : 0 ≤ (x4_1 : Int) := of_decide_eq_true (by first | (with_reducible assumption) | assumption)
        have q166 : x4_1 < (l0.length : Int) := of_decide_eq_true (by first | (with_reducible assumption) | assumption)
        obtain ⟨ad166, A166_0, c166_0, A166_1, c166_1, e166, hx166_0, hx166_1, hl166_0, hi166_0, hl166_1, hi166_1⟩ := at_T47 HR0.out x4_1 p166 q166
        have hw166_1 := hx166_1
        have hw166_0 := hx166_0
        obtain rfl : ad159 = ad166 := (by injection e166)
        replace hx166_0 := (HB.out.cell (World.block_lt_of_cell? w _ hx166_0)).trans hx166_0
        replace hx166_1 := (HB.out.cell (World.block_lt_of_cell? w _ hx166_1)).trans hx166_1
        have HR166_0 := Aside0.mk hi166_0
        have HC166_0 := Aside0.mk hl166_0
        clear hi166_0 hl166_0
        have HR166_1 := Aside0.mk hi166_1
        have HC166_1 := Aside0.mk hl166_1
        clear hi166_1 hl166_1
        replace p166 := eq_true p166
        replace q166 := eq_true q166
        have ea_ := Option.some.inj (hx159_0.symm.trans hx166_0)
        injection ea_ with ea_ en_ ec_
        subst ea_
        subst ec_
        clear en_
        have ea_ := Option.some.inj (hx159_1.symm.trans hx166_1)
        injection ea_ with ea_ en_ ec_
        subst ea_
        subst ec_
        clear en_
        refine start_ (n := 19) (S := fun w' => w'.cell? (ad159.add ((x4_1).toNat * 2)) = some (.slice A159_0 ((rd_T47 l0 x4_1).f0).length c159_0) ∧ w'.cell? ⟨(ad159.add ((x4_1).toNat * 2)).block, (ad159.add ((x4_1).toNat * 2)).off + 1, none⟩ = some (.slice A159_1 ((rd_T47 l0 x4_1).f1).length c159_1) ∧ w'.cell? (ad159.add ((x4_1).toNat * 2)) = some (.slice A159_0 ((rd_T47 l0 x4_1).f0).length c159_0) ∧ w'.cell? ⟨(ad159.add ((x4_1).toNat * 2)).block, (ad159.add ((x4_1).toNat * 2)).off + 1, none⟩ = some (.slice A159_1 ((rd_T47 l0 x4_1).f1).length c159_1)) (ds := []) (bz 19 0) (by kernel_rfl) rfl rfl ⟨((HB.out.cell (World.block_lt_of_cell? w _ hw159_0)).trans hw159_0), ((HB.out.cell (World.block_lt_of_cell? w _ hw159_1)).trans hw159_1), ((HB.out.cell (World.block_lt_of_cell? w _ hw166_0)).trans hw166_0), ((HB.out.cell (World.block_lt_of_cell? w _ hw166_1)).trans hw166_1)⟩ (fun hHeld => ?_); refine with_tabW soundingsref05_Copy.tab5 soundingsref05_Copy.bits5 (fun HT_ HW_ => ?_)
        generalize wr.drew = w8 at HO_3 HB HR159_0 HR159_1 HR166_0 HR166_1 hx159_0 hx159_1 hx166_0 hx166_1 hHeld ⊢
        refine pq 0 11 (bz 19 1) (any_of HT_.out (by kernel_rfl)) ?_
        refine pq 2 13 (bz 19 5) (any_of HT_.out (by kernel_rfl)) ?_
        refine pq 3 14 (bz 19 13) (any_of HT_.out (by kernel_rfl)) ?_
        refine pq 4 15 (bz 19 29) (any_of HT_.out (by kernel_rfl)) ?_
        refine pq 5 16 (bz 19 61) (any_of HT_.out (by kernel_rfl)) ?_
        refine pq 9 20 (bz 19 573) (any_of HT_.out (by kernel_rfl)) ?_
        refine pq 10 21 (bz 19 1597) (any_of HT_.out (by kernel_rfl)) ?_
        refine pq 11 22 (bz 19 3645) (any_of HT_.out (by kernel_rfl)) ?_
        refine pq 12 23 (bz 19 7741) (any_of HT_.out (by kernel_rfl)) ?_
        refine tq 6 17 (bz 19 7805) (take_ofW HT_.out HW_.out (by kernel_rfl)) rfl rfl (by rintro w' ⟨s0, s1, s2, s3⟩; go_simp; with_reducible rfl) hHeld ?_
        refine tq 13 24 (bz 19 15997) (take_ofW HT_.out HW_.out (by kernel_rfl)) rfl rfl (by rintro w' ⟨s0, s1, s2, s3⟩; go_simp; with_reducible rfl) hHeld ?_
        refine join_ (σ := Value × Value × Value) 5 (bz 19 16383) (fun s_ => [(12, s_.1), (18, s_.2.1), (19, s_.2.2)]) (fun s_ w' => (w'.cell? (ad159.add ((x4_1).toNat * 2)) = some (.slice A159_0 ((rd_T47 l0 x4_1).f0).length c159_0) ∧ w'.cell? ⟨(ad159.add ((x4_1).toNat * 2)).block, (ad159.add ((x4_1).toNat * 2)).off + 1, none⟩ = some (.slice A159_1 ((rd_T47 l0 x4_1).f1).length c159_1) ∧ w'.cell? (ad159.add ((x4_1).toNat * 2)) = some (.slice A159_0 ((rd_T47 l0 x4_1).f0).length c159_0) ∧ w'.cell? ⟨(ad159.add ((x4_1).toNat * 2)).block, (ad159.add ((x4_1).toNat * 2)).off + 1, none⟩ = some (.slice A159_1 ((rd_T47 l0 x4_1).f1).length c159_1)) ∧ (Kd.R k44 44 w' w.heap.size (fun _ => True) s_.2.1 y160) ∧ (Kd.R k26 26 w' w.heap.size (fun _ => True) s_.2.2 y163) ∧ (Kd.S k47 47 w' w.heap.size (fun k_ => some k_ ≠ (s_.2.1 : Value).ownBlock ∧ some k_ ≠ (s_.2.2 : Value).ownBlock) (.slice Ao7 x3_1.length co7) x3_1) ∧ (Below w.heap.size w w')) ?_ ?_
        rotate_left
        ·intro hCont
         refine two_ (i := 1) (j := 8) (Ni := some 12) (Nj := some 19) (bz 19 15999) (bz 19 16253) rfl rfl rfl rfl (two_of HT_.out (by kernel_rfl)) (by decide) (by decide) (fun K hK => ?_) (fun K hK => ?_)
         ·skip
          refine Kd.R_lit_step k44 _ 44 ?hg (N := 12) ?hd (xs := ([] : List (S44))) (inner := []) (ok := fun _ => True) (okp := fun _ => True) ?hr ?hp (fun _ hk => hk) trivial (Below.refl _ _) (Nat.le_refl _) (by simp) ?_; (case hd => rfl); (case hg => rfl); (case hr => first | (go_simp; done) | (go_simp; rfl)); (case hp => exact (Reps.none _ _))
          intro v157 w9 ho10 hb hg_ hnew_
          clear hg_ hnew_
          (first | rw [← Ny156.out] at ho10 | (simp only [Int.reduceToNat] at ho10; rw [← Ny156.out] at ho10))
          have n0_ := Aside0.mk (Kd.S_elder' (by (with_reducible repeat (first | apply Kd.S_alloc | apply Kd.S_drewN | apply Kd.S_drew)); exact HO_3.out) (Kd.R_base ho10) hb)
          have n1_ := Aside0.mk (Kd.R_lower ho10 (below_size (by repeat (first | (with_reducible first | exact HB.out | apply below_alloc | apply pw_below_drewN | apply below_drew1) | exact HB.out))))
          have n2_ := Aside0.mk (below_step (by repeat (first | (with_reducible first | exact HB.out | apply below_alloc | apply pw_below_drewN | apply below_drew1) | exact HB.out)) hb)
          clear HO_3
          clear HB
          have HO_3 := n0_
          have HO158 := n1_
          have HB := n2_
          clear n0_ n1_ n2_
          clear hb ho10
          refine hK.out _ _ ⟨((HB.out.cell (World.block_lt_of_cell? w _ hw159_0)).trans hw159_0), ((HB.out.cell (World.block_lt_of_cell? w _ hw159_1)).trans hw159_1), ((HB.out.cell (World.block_lt_of_cell? w _ hw166_0)).trans hw166_0), ((HB.out.cell (World.block_lt_of_cell? w _ hw166_1)).trans hw166_1)⟩ (fun hHeld => ?_)
          clear hK K
          refine norm_ (show Act.put _ (some 12) _ = _ by simp only [pu, s0, s1, i64_w, i32_w]; rfl) ?_
          refine two_ (i := 7) (j := 8) (Ni := some 18) (Nj := some 19) (bz 19 16127) (bz 19 16255) rfl rfl rfl rfl (two_of HT_.out (by kernel_rfl)) (by decide) (by decide) (fun K hK => ?_) (fun K hK => ?_)
          ·skip
           refine Kd.R_append_rows_step k44 (w0 := w) w.heap.size (by rfl) (.tmp 12) (.tmp 17) 23 44 (.agg #[(.string ⟨#[]⟩), (.string ⟨#[]⟩)]) 32 rfl Tryz.underlying23 info44 rfl (by decide) (by omega) v157 y156 ((rd_T47 l0 x4_1).f0) _ _ _ (fun _ => True) (fun _ => False) rfl rfl ?aO ?aR (fun _ _ h => h) (fun _ h => h.elim) ?aF ?aB ?aS ?aL ?_
           (case aR => repeat (first | exact (Kd.C_below HR159_0.out HB.out) | (with_reducible refine Kd.C_alloc ?_ _) | (with_reducible refine Kd.C_drewN ?_ _) | (with_reducible refine Kd.C_drew ?_)))
           (case aB => exact (by repeat (first | (with_reducible first | exact HB.out | apply below_alloc | apply pw_below_drewN | apply below_drew1) | exact HB.out)))
           (case aF => exact (fun _ _ => trivial))
           (case aO => exact (by (with_reducible repeat (first | apply Kd.R_alloc | apply Kd.R_drewN | apply Kd.R_drew)); exact HO158.out))
           (case aS => exact (below_size (by repeat (first | (with_reducible first | exact HB.out | apply below_alloc | apply pw_below_drewN | apply below_drew1) | exact HB.out))))
           (case aL => have := LMc4.out; omega)
           intro v161 w11 ho hb hg hat
           rw [← Ny160.out] at ho
           have n0_ := Aside0.mk (Kd.S_after (ok := (fun _ => True)) (by (with_reducible repeat (first | apply Kd.S_alloc | apply Kd.S_drewN | apply Kd.S_drew)); exact HO_3.out) hg hat)
           have n1_ := Aside0.mk (hb)
           have n2_ := Aside0.mk (ho)
           clear HO_3
           clear HB
           clear HO158
           have HO_3 := n0_
           have HB := n1_
           have HO162 := n2_
           clear n0_ n1_ n2_
           clear ho hb hg hat
           refine hK.out _ _ ⟨((HB.out.cell (World.block_lt_of_cell? w _ hw159_0)).trans hw159_0), ((HB.out.cell (World.block_lt_of_cell? w _ hw159_1)).trans hw159_1), ((HB.out.cell (World.block_lt_of_cell? w _ hw166_0)).trans hw166_0), ((HB.out.cell (World.block_lt_of_cell? w _ hw166_1)).trans hw166_1)⟩ (fun hHeld => ?_)
           clear hK K
           refine norm_ (show Act.put _ (some 18) _ = _ by simp only [pu, s0, s1, i64_w, i32_w]; rfl) ?_
           refine one_ (i := 8) (N := some 19) (bz 19 16383) rfl rfl (one_of HT_.out (by kernel_rfl)) (by decide) (fun K hK => ?_)
           refine Kd.R_lit_step k26 _ 26 ?hg (N := 19) ?hd (xs := ([] : List (S26))) (inner := []) (ok := fun _ => True) (okp := fun _ => True) ?hr ?hp (fun _ hk => hk) trivial (Below.refl _ _) (Nat.le_refl _) (by simp) ?_; (case hd => rfl); (case hg => rfl); (case hr => first | (go_simp; done) | (go_simp; rfl)); (case hp => exact (Reps.none _ _))
           intro v164 w12 ho13 hb hg_ hnew_
           clear hg_ hnew_
           (first | rw [← Ny163.out] at ho13 | (simp only [Int.reduceToNat] at ho13; rw [← Ny163.out] at ho13))
           have n0_ := Aside0.mk (Kd.S_elder' (by (with_reducible repeat (first | apply Kd.S_alloc | apply Kd.S_drewN | apply Kd.S_drew)); exact HO_3.out) (Kd.R_base ho13) hb)
           have n1_ := Aside0.mk (Kd.R_below (by (with_reducible repeat (first | apply Kd.R_alloc | apply Kd.R_drewN | apply Kd.R_drew)); exact HO162.out) hb)
           have n2_ := Aside0.mk (Kd.R_lower ho13 (below_size (by repeat (first | (with_reducible first | exact HB.out | apply below_alloc | apply pw_below_drewN | apply below_drew1) | exact HB.out))))
           have n3_ := Aside0.mk (below_step (by repeat (first | (with_reducible first | exact HB.out | apply below_alloc | apply pw_below_drewN | apply below_drew1) | exact HB.out)) hb)
           clear HO_3
           clear HO162
           clear HB
           have HO_3 := n0_
           have HO162 := n1_
           have HO165 := n2_
           have HB := n3_
           clear n0_ n1_ n2_ n3_
           clear hb ho13
           refine hK.out _ _ ⟨((HB.out.cell (World.block_lt_of_cell? w _ hw159_0)).trans hw159_0), ((HB.out.cell (World.block_lt_of_cell? w _ hw159_1)).trans hw159_1), ((HB.out.cell (World.block_lt_of_cell? w _ hw166_0)).trans hw166_0), ((HB.out.cell (World.block_lt_of_cell? w _ hw166_1)).trans hw166_1)⟩ (fun hHeld => ?_)
           clear hK K
           refine norm_ (show Act.put _ (some 19) _ = _ by simp only [pu, s0, s1, i64_w, i32_w]; rfl) ?_
           exact norm_ (by simp only [putAll, Act.put, List.setIfInBounds_toArray, List.set_cons_zero, List.set_cons_succ]) (hCont (v157, v161, v164) _ ⟨hHeld, (by (with_reducible repeat (first | apply Kd.R_alloc | apply Kd.R_drewN | apply Kd.R_drew)); exact HO162.out), (by (with_reducible repeat (first | apply Kd.R_alloc | apply Kd.R_drewN | apply Kd.R_drew)); exact HO165.out), (by (with_reducible repeat (first | apply Kd.S_alloc | apply Kd.S_drewN | apply Kd.S_drew)); exact Kd.S_mono HO_3.out (fun _ hk => ⟨hk.1.2, hk.2⟩)), (by repeat (first | (with_reducible first | exact HB.out | apply below_alloc | apply pw_below_drewN | apply below_drew1) | exact HB.out))⟩)
          ·skip
           refine Kd.R_lit_step k26 _ 26 ?hg (N := 19) ?hd (xs := ([] : List (S26))) (inner := []) (ok := fun _ => True) (okp := fun _ => True) ?hr ?hp (fun _ hk => hk) trivial (Below.refl _ _) (Nat.le_refl _) (by simp) ?_; (case hd => rfl); (case hg => rfl); (case hr => first | (go_simp; done) | (go_simp; rfl)); (case hp => exact (Reps.none _ _))
           intro v164 w11 ho12 hb hg_ hnew_
           clear hg_ hnew_
           (first | rw [← Ny163.out] at ho12 | (simp only [Int.reduceToNat] at ho12; rw [← Ny163.out] at ho12))
           have n0_ := Aside0.mk (Kd.S_elder' (by (with_reducible repeat (first | apply Kd.S_alloc | apply Kd.S_drewN | apply Kd.S_drew)); exact HO_3.out) (Kd.R_base ho12) hb)
           have n1_ := Aside0.mk (Kd.R_below (by (with_reducible repeat (first | apply Kd.R_alloc | apply Kd.R_drewN | apply Kd.R_drew)); exact HO158.out) hb)
           have n2_ := Aside0.mk (Kd.R_lower ho12 (below_size (by repeat (first | (with_reducible first | exact HB.out | apply below_alloc | apply pw_below_drewN | apply below_drew1) | exact HB.out))))
           have n3_ := Aside0.mk (below_step (by repeat (first | (with_reducible first | exact HB.out | apply below_alloc | apply pw_below_drewN | apply below_drew1) | exact HB.out)) hb)
           clear HO_3
           clear HO158
           clear HB
           have HO_3 := n0_
           have HO158 := n1_
           have HO165 := n2_
           have HB := n3_
           clear n0_ n1_ n2_ n3_
           clear hb ho12
           refine hK.out _ _ ⟨((HB.out.cell (World.block_lt_of_cell? w _ hw159_0)).trans hw159_0), ((HB.out.cell (World.block_lt_of_cell? w _ hw159_1)).trans hw159_1), ((HB.out.cell (World.block_lt_of_cell? w _ hw166_0)).trans hw166_0), ((HB.out.cell (World.block_lt_of_cell? w _ hw166_1)).trans hw166_1)⟩ (fun hHeld => ?_)
           clear hK K
           refine norm_ (show Act.put _ (some 19) _ = _ by simp only [pu, s0, s1, i64_w, i32_w]; rfl) ?_
           refine one_ (i := 7) (N := some 18) (bz 19 16383) rfl rfl (one_of HT_.out (by kernel_rfl)) (by decide) (fun K hK => ?_)
           refine Kd.R_append_rows_step k44 (w0 := w) w.heap.size (by rfl) (.tmp 12) (.tmp 17) 23 44 (.agg #[(.string ⟨#[]⟩), (.string ⟨#[]⟩)]) 32 rfl Tryz.underlying23 info44 rfl (by decide) (by omega) v157 y156 ((rd_T47 l0 x4_1).f0) _ _ _ (fun _ => True) (fun _ => False) rfl rfl ?aO ?aR (fun _ _ h => h) (fun _ h => h.elim) ?aF ?aB ?aS ?aL ?_
           (case aR => repeat (first | exact (Kd.C_below HR159_0.out HB.out) | (with_reducible refine Kd.C_alloc ?_ _) | (with_reducible refine Kd.C_drewN ?_ _) | (with_reducible refine Kd.C_drew ?_)))
           (case aB => exact (by repeat (first | (with_reducible first | exact HB.out | apply below_alloc | apply pw_below_drewN | apply below_drew1) | exact HB.out)))
           (case aF => exact (fun _ _ => trivial))
           (case aO => exact (by (with_reducible repeat (first | apply Kd.R_alloc | apply Kd.R_drewN | apply Kd.R_drew)); exact HO158.out))
           (case aS => exact (below_size (by repeat (first | (with_reducible first | exact HB.out | apply below_alloc | apply pw_below_drewN | apply below_drew1) | exact HB.out))))
           (case aL => have := LMc4.out; omega)
           intro v161 w13 ho hb hg hat
           rw [← Ny160.out] at ho
           have n0_ := Aside0.mk (Kd.S_after (ok := (fun k_ => some k_ ≠ (v164 : Value).ownBlock)) (by (with_reducible repeat (first | apply Kd.S_alloc | apply Kd.S_drewN | apply Kd.S_drew)); exact Kd.S_mono HO_3.out (fun _ hk => ⟨hk.2, hk.1.2⟩)) hg hat)
           have n1_ := Aside0.mk (Kd.R_over' (by (with_reducible repeat (first | apply Kd.R_alloc | apply Kd.R_drewN | apply Kd.R_drew)); exact HO165.out) (Kd.R_typed (by (with_reducible repeat (first | apply Kd.R_alloc | apply Kd.R_drewN | apply Kd.R_drew)); exact HO158.out)) (by decide) hg)
           have n2_ := Aside0.mk (hb)
           have n3_ := Aside0.mk (ho)
           clear HO_3
           clear HO165
           clear HB
           clear HO158
           have HO_3 := n0_
           have HO165 := n1_
           have HB := n2_
           have HO162 := n3_
           clear n0_ n1_ n2_ n3_
           clear ho hb hg hat
           refine hK.out _ _ ⟨((HB.out.cell (World.block_lt_of_cell? w _ hw159_0)).trans hw159_0), ((HB.out.cell (World.block_lt_of_cell? w _ hw159_1)).trans hw159_1), ((HB.out.cell (World.block_lt_of_cell? w _ hw166_0)).trans hw166_0), ((HB.out.cell (World.block_lt_of_cell? w _ hw166_1)).trans hw166_1)⟩ (fun hHeld => ?_)
           clear hK K
           refine norm_ (show Act.put _ (some 18) _ = _ by simp only [pu, s0, s1, i64_w, i32_w]; rfl) ?_
           exact norm_ (by simp only [putAll, Act.put, List.setIfInBounds_toArray, List.set_cons_zero, List.set_cons_succ]) (hCont (v157, v161, v164) _ ⟨hHeld, (by (with_reducible repeat (first | apply Kd.R_alloc | apply Kd.R_drewN | apply Kd.R_drew)); exact HO162.out), (by (with_reducible repeat (first | apply Kd.R_alloc | apply Kd.R_drewN | apply Kd.R_drew)); exact HO165.out), (by (with_reducible repeat (first | apply Kd.S_alloc | apply Kd.S_drewN | apply Kd.S_drew)); exact Kd.S_mono HO_3.out (fun _ hk => ⟨hk.2, hk.1⟩)), (by repeat (first | (with_reducible first | exact HB.out | apply below_alloc | apply pw_below_drewN | apply below_drew1) | exact HB.out))⟩)
         ·skip
          refine Kd.R_lit_step k26 _ 26 ?hg (N := 19) ?hd (xs := ([] : List (S26))) (inner := []) (ok := fun _ => True) (okp := fun _ => True) ?hr ?hp (fun _ hk => hk) trivial (Below.refl _ _) (Nat.le_refl _) (by simp) ?_; (case hd => rfl); (case hg => rfl); (case hr => first | (go_simp; done) | (go_simp; rfl)); (case hp => exact (Reps.none _ _))
          intro v164 w9 ho10 hb hg_ hnew_
          clear hg_ hnew_
          (first | rw [← Ny163.out] at ho10 | (simp only [Int.reduceToNat] at ho10; rw [← Ny163.out] at ho10))
          have n0_ := Aside0.mk (Kd.S_elder' (by (with_reducible repeat (first | apply Kd.S_alloc | apply Kd.S_drewN | apply Kd.S_drew)); exact HO_3.out) (Kd.R_base ho10) hb)
          have n1_ := Aside0.mk (Kd.R_lower ho10 (below_size (by repeat (first | (with_reducible first | exact HB.out | apply below_alloc | apply pw_below_drewN | apply below_drew1) | exact HB.out))))
          have n2_ := Aside0.mk (below_step (by repeat (first | (with_reducible first | exact HB.out | apply below_alloc | apply pw_below_drewN | apply below_drew1) | exact HB.out)) hb)
          clear HO_3
          clear HB
          have HO_3 := n0_
          have HO165 := n1_
          have HB := n2_
          clear n0_ n1_ n2_
          clear hb ho10
          refine hK.out _ _ ⟨((HB.out.cell (World.block_lt_of_cell? w _ hw159_0)).trans hw159_0), ((HB.out.cell (World.block_lt_of_cell? w _ hw159_1)).trans hw159_1), ((HB.out.cell (World.block_lt_of_cell? w _ hw166_0)).trans hw166_0), ((HB.out.cell (World.block_lt_of_cell? w _ hw166_1)).trans hw166_1)⟩ (fun hHeld => ?_)
          clear hK K
          refine norm_ (show Act.put _ (some 19) _ = _ by simp only [pu, s0, s1, i64_w, i32_w]; rfl) ?_
          refine one_ (i := 1) (N := some 12) (bz 19 16255) rfl rfl (one_of HT_.out (by kernel_rfl)) (by decide) (fun K hK => ?_)
          refine Kd.R_lit_step k44 _ 44 ?hg (N := 12) ?hd (xs := ([] : List (S44))) (inner := []) (ok := fun _ => True) (okp := fun _ => True) ?hr ?hp (fun _ hk => hk) trivial (Below.refl _ _) (Nat.le_refl _) (by simp) ?_; (case hd => rfl); (case hg => rfl); (case hr => first | (go_simp; done) | (go_simp; rfl)); (case hp => exact (Reps.none _ _))
          intro v157 w11 ho12 hb hg_ hnew_
          clear hg_ hnew_
          (first | rw [← Ny156.out] at ho12 | (simp only [Int.reduceToNat] at ho12; rw [← Ny156.out] at ho12))
          have n0_ := Aside0.mk (Kd.S_elder' (by (with_reducible repeat (first | apply Kd.S_alloc | apply Kd.S_drewN | apply Kd.S_drew)); exact HO_3.out) (Kd.R_base ho12) hb)
          have n1_ := Aside0.mk (Kd.R_below (by (with_reducible repeat (first | apply Kd.R_alloc | apply Kd.R_drewN | apply Kd.R_drew)); exact HO165.out) hb)
          have n2_ := Aside0.mk (Kd.R_lower ho12 (below_size (by repeat (first | (with_reducible first | exact HB.out | apply below_alloc | apply pw_below_drewN | apply below_drew1) | exact HB.out))))
          have n3_ := Aside0.mk (below_step (by repeat (first | (with_reducible first | exact HB.out | apply below_alloc | apply pw_below_drewN | apply below_drew1) | exact HB.out)) hb)
          clear HO_3
          clear HO165
          clear HB
          have HO_3 := n0_
          have HO165 := n1_
          have HO158 := n2_
          have HB := n3_
          clear n0_ n1_ n2_ n3_
          clear hb ho12
          refine hK.out _ _ ⟨((HB.out.cell (World.block_lt_of_cell? w _ hw159_0)).trans hw159_0), ((HB.out.cell (World.block_lt_of_cell? w _ hw159_1)).trans hw159_1), ((HB.out.cell (World.block_lt_of_cell? w _ hw166_0)).trans hw166_0), ((HB.out.cell (World.block_lt_of_cell? w _ hw166_1)).trans hw166_1)⟩ (fun hHeld => ?_)
          clear hK K
          refine norm_ (show Act.put _ (some 12) _ = _ by simp only [pu, s0, s1, i64_w, i32_w]; rfl) ?_
          refine one_ (i := 7) (N := some 18) (bz 19 16383) rfl rfl (one_of HT_.out (by kernel_rfl)) (by decide) (fun K hK => ?_)
          refine Kd.R_append_rows_step k44 (w0 := w) w.heap.size (by rfl) (.tmp 12) (.tmp 17) 23 44 (.agg #[(.string ⟨#[]⟩), (.string ⟨#[]⟩)]) 32 rfl Tryz.underlying23 info44 rfl (by decide) (by omega) v157 y156 ((rd_T47 l0 x4_1).f0) _ _ _ (fun _ => True) (fun _ => False) rfl rfl ?aO ?aR (fun _ _ h => h) (fun _ h => h.elim) ?aF ?aB ?aS ?aL ?_
          (case aR => repeat (first | exact (Kd.C_below HR159_0.out HB.out) | (with_reducible refine Kd.C_alloc ?_ _) | (with_reducible refine Kd.C_drewN ?_ _) | (with_reducible refine Kd.C_drew ?_)))
          (case aB => exact (by repeat (first | (with_reducible first | exact HB.out | apply below_alloc | apply pw_below_drewN | apply below_drew1) | exact HB.out)))
          (case aF => exact (fun _ _ => trivial))
          (case aO => exact (by (with_reducible repeat (first | apply Kd.R_alloc | apply Kd.R_drewN | apply Kd.R_drew)); exact HO158.out))
          (case aS => exact (below_size (by repeat (first | (with_reducible first | exact HB.out | apply below_alloc | apply pw_below_drewN | apply below_drew1) | exact HB.out))))
          (case aL => have := LMc4.out; omega)
          intro v161 w13 ho hb hg hat
          rw [← Ny160.out] at ho
          have n0_ := Aside0.mk (Kd.S_after (ok := (fun k_ => some k_ ≠ (v164 : Value).ownBlock)) (by (with_reducible repeat (first | apply Kd.S_alloc | apply Kd.S_drewN | apply Kd.S_drew)); exact Kd.S_mono HO_3.out (fun _ hk => ⟨hk.1.2, hk.2⟩)) hg hat)
          have n1_ := Aside0.mk (Kd.R_over' (by (with_reducible repeat (first | apply Kd.R_alloc | apply Kd.R_drewN | apply Kd.R_drew)); exact HO165.out) (Kd.R_typed (by (with_reducible repeat (first | apply Kd.R_alloc | apply Kd.R_drewN | apply Kd.R_drew)); exact HO158.out)) (by decide) hg)
          have n2_ := Aside0.mk (hb)
          have n3_ := Aside0.mk (ho)
          clear HO_3
          clear HO165
          clear HB
          clear HO158
          have HO_3 := n0_
          have HO165 := n1_
          have HB := n2_
          have HO162 := n3_
          clear n0_ n1_ n2_ n3_
          clear ho hb hg hat
          refine hK.out _ _ ⟨((HB.out.cell (World.block_lt_of_cell? w _ hw159_0)).trans hw159_0), ((HB.out.cell (World.block_lt_of_cell? w _ hw159_1)).trans hw159_1), ((HB.out.cell (World.block_lt_of_cell? w _ hw166_0)).trans hw166_0), ((HB.out.cell (World.block_lt_of_cell? w _ hw166_1)).trans hw166_1)⟩ (fun hHeld => ?_)
          clear hK K
          refine norm_ (show Act.put _ (some 18) _ = _ by simp only [pu, s0, s1, i64_w, i32_w]; rfl) ?_
          exact norm_ (by simp only [putAll, Act.put, List.setIfInBounds_toArray, List.set_cons_zero, List.set_cons_succ]) (hCont (v157, v161, v164) _ ⟨hHeld, (by (with_reducible repeat (first | apply Kd.R_alloc | apply Kd.R_drewN | apply Kd.R_drew)); exact HO162.out), (by (with_reducible repeat (first | apply Kd.R_alloc | apply Kd.R_drewN | apply Kd.R_drew)); exact HO165.out), (by (with_reducible repeat (first | apply Kd.S_alloc | apply Kd.S_drewN | apply Kd.S_drew)); exact Kd.S_mono HO_3.out (fun _ hk => ⟨hk.2, hk.1⟩)), (by repeat (first | (with_reducible first | exact HB.out | apply below_alloc | apply pw_below_drewN | apply below_drew1) | exact HB.out))⟩)
        rintro ⟨v157, v161, v164⟩ w14 ⟨hS_, h0_, h1_, h2_, h3_⟩
        have n0_ : Aside0 (Kd.R k44 44 w14 w.heap.size (fun _ => True) v161 y160) := ⟨h0_⟩
        have n1_ : Aside0 (Kd.R k26 26 w14 w.heap.size (fun _ => True) v164 y163) := ⟨h1_⟩
        have n2_ : Aside0 (Kd.S k47 47 w14 w.heap.size (fun k_ => some k_ ≠ (v161 : Value).ownBlock ∧ some k_ ≠ (v164 : Value).ownBlock) (.slice Ao7 x3_1.length co7) x3_1) := ⟨h2_⟩
        have n3_ : Aside0 (Below w.heap.size w w14) := ⟨h3_⟩
        clear HO_3
        clear HB
        clear h0_ h1_ h2_ h3_
        have HO162 := n0_
        have HO165 := n1_
        have HO_3 := n2_
        have HB := n3_
        clear n0_ n1_ n2_ n3_
        have hHeld : w14.cell? (ad159.add ((x4_1).toNat * 2)) = some (.slice A159_0 ((rd_T47 l0 x4_1).f0).length c159_0) ∧ w14.cell? ⟨(ad159.add ((x4_1).toNat * 2)).block, (ad159.add ((x4_1).toNat * 2)).off + 1, none⟩ = some (.slice A159_1 ((rd_T47 l0 x4_1).f1).length c159_1) ∧ w14.cell? (ad159.add ((x4_1).toNat * 2)) = some (.slice A159_0 ((rd_T47 l0 x4_1).f0).length c159_0) ∧ w14.cell? ⟨(ad159.add ((x4_1).toNat * 2)).block, (ad159.add ((x4_1).toNat * 2)).off + 1, none⟩ = some (.slice A159_1 ((rd_T47 l0 x4_1).f1).length c159_1) := hS_
        refine norm_ (a' := ?_) ?_ ?_
        rotate_left
        ·simp only [putAll, Act.put, List.setIfInBounds_toArray, List.set_cons_zero, List.set_cons_succ]
         rfl
        refine one_ (i := 14) (N := some 25) (bz 19 32767) rfl rfl (one_of HT_.out (by kernel_rfl)) (by decide) (fun K hK => ?_)
        refine Kd.R_append_rows_step k26 (w0 := w) w.heap.size (by rfl) (.tmp 19) (.tmp 24) 45 26 (.agg #[(.int .i64 0), (.int .u64 0)]) 16 rfl Tryz.underlying45 info26 rfl (by decide) (by omega) v164 y163 ((rd_T47 l0 x4_1).f1) _ _ _ (fun _ => True) (fun _ => False) rfl rfl ?aO ?aR (fun _ _ h => h) (fun _ h => h.elim) ?aF ?aB ?aS ?aL ?_
        (case aR => repeat (first | exact (Kd.C_below HR166_1.out HB.out) | (with_reducible refine Kd.C_alloc ?_ _) | (with_reducible refine Kd.C_drewN ?_ _) | (with_reducible refine Kd.C_drew ?_)))
        (case aB => exact (by repeat (first | (with_reducible first | exact HB.out | apply below_alloc | apply pw_below_drewN | apply below_drew1) | exact HB.out)))
        (case aF => exact (fun _ _ => trivial))
        (case aO => exact (by (with_reducible repeat (first | apply Kd.R_alloc | apply Kd.R_drewN | apply Kd.R_drew)); exact HO165.out))
        (case aS => exact (below_size (by repeat (first | (with_reducible first | exact HB.out | apply below_alloc | apply pw_below_drewN | apply below_drew1) | exact HB.out))))
        (case aL => have := LMc5.out; omega)
        intro v168 w15 ho hb hg hat
        rw [← Ny167.out] at ho
        have n0_ := Aside0.mk (Kd.S_after (ok := (fun k_ => some k_ ≠ (v161 : Value).ownBlock)) (by (with_reducible repeat (first | apply Kd.S_alloc | apply Kd.S_drewN | apply Kd.S_drew)); exact HO_3.out) hg hat)
        have n1_ := Aside0.mk (Kd.R_over' (by (with_reducible repeat (first | apply Kd.R_alloc | apply Kd.R_drewN | apply Kd.R_drew)); exact HO162.out) (Kd.R_typed (by (with_reducible repeat (first | apply Kd.R_alloc | apply Kd.R_drewN | apply Kd.R_drew)); exact HO165.out)) (by decide) hg)
        have n2_ := Aside0.mk (hb)
        have n3_ := Aside0.mk (ho)
        clear HO_3
        clear HO162
        clear HB
        clear HO165
        have HO_3 := n0_
        have HO162 := n1_
        have HB := n2_
        have HO169 := n3_
        clear n0_ n1_ n2_ n3_
        clear ho hb hg hat
        obtain ⟨Ao16, co16, eo16⟩ := Kd.R_slice HO169.out
        (first | subst eo16 | (injection eo16 with f1_ f2_ f3_; have f4_ := f1_.symm; have f5_ := f3_.symm; clear f1_ f2_ f3_; subst f4_; subst f5_))
        obtain ⟨Ao17, co17, eo17⟩ := Kd.R_slice HO162.out
        (first | subst eo17 | (injection eo17 with f1_ f2_ f3_; have f4_ := f1_.symm; have f5_ := f3_.symm; clear f1_ f2_ f3_; subst f4_; subst f5_))
        refine hK.out _ _ ⟨((HB.out.cell (World.block_lt_of_cell? w _ hw159_0)).trans hw159_0), ((HB.out.cell (World.block_lt_of_cell? w _ hw159_1)).trans hw159_1), ((HB.out.cell (World.block_lt_of_cell? w _ hw166_0)).trans hw166_0), ((HB.out.cell (World.block_lt_of_cell? w _ hw166_1)).trans hw166_1)⟩ (fun hHeld => ?_)
        clear hK K
        refine norm_ (show Act.put _ (some 25) _ = _ by simp only [pu, s0, s1, i64_w, i32_w]; rfl) ?_
        refine pq 15 26 (bz 19 65535) (any_of HT_.out (by kernel_rfl)) ?_
        refine one_ (i := 16) (N := some 27) (bz 19 131071) rfl rfl (one_of HT_.out (by kernel_rfl)) (by decide) (fun K hK => ?_)
        refine value_ (w1 := ?_) (v := ?_) (by rfl) rfl ?_ ?_
        rotate_left 2
        ·go_simp
         constructor
         ·rfl
         ·rfl
        refine hK.out _ _ ⟨(World.cell?_alloc_lt _ _ _ (World.block_lt_of_cell? _ _ (((HB.out.cell (World.block_lt_of_cell? w _ hw159_0)).trans hw159_0)))).trans (((HB.out.cell (World.block_lt_of_cell? w _ hw159_0)).trans hw159_0)), (World.cell?_alloc_lt _ _ _ (World.block_lt_of_cell? _ _ (((HB.out.cell (World.block_lt_of_cell? w _ hw159_1)).trans hw159_1)))).trans (((HB.out.cell (World.block_lt_of_cell? w _ hw159_1)).trans hw159_1)), (World.cell?_alloc_lt _ _ _ (World.block_lt_of_cell? _ _ (((HB.out.cell (World.block_lt_of_cell? w _ hw166_0)).trans hw166_0)))).trans (((HB.out.cell (World.block_lt_of_cell? w _ hw166_0)).trans hw166_0)), (World.cell?_alloc_lt _ _ _ (World.block_lt_of_cell? _ _ (((HB.out.cell (World.block_lt_of_cell? w _ hw166_1)).trans hw166_1)))).trans (((HB.out.cell (World.block_lt_of_cell? w _ hw166_1)).trans hw166_1))⟩ (fun hHeld => ?_)
        clear hK K
        refine norm_ (show Act.put _ (some 27) _ = _ by simp only [pu, s0, s1, i64_w, i32_w]; rfl) ?_
        refine one_ (i := 17) (N := some 28) (bz 19 262143) rfl rfl (one_of HT_.out (by kernel_rfl)) (by decide) (fun K hK => ?_)
        refine Kd.S_append_step k47 (w0 := w) w.heap.size (by rfl) (.tmp 11) (.tmp 27) 22 47 (.agg #[(.slice none 0 0), (.slice none 0 0)]) 48 rfl Tryz.underlying22 info47 rfl (by decide) (by omega) (.slice Ao7 x3_1.length co7) x3_1 (⟨y160, y167⟩ : S47) [.slice Ao17 y160.length co17, .slice Ao16 y167.length co16] (fun _ => True) (fun k_ => some k_ = (.slice Ao17 y160.length co17 : Value).ownBlock ∨ some k_ = (.slice Ao16 y167.length co16 : Value).ownBlock) rfl rfl ?aP (fun k_ hk_ => hk_.elim (fun h_ => ((Kd.R_mono (ok' := fun k_ => ((fun _ => True)) k_ ∧ some k_ ≠ (.slice Ao7 x3_1.length co7 : Value).ownBlock) (Kd.R_apart' (HO162.out) (Kd.S_typed HO_3.out) (by decide)) (fun k_ hk => ⟨trivial, hk.2⟩))).1 k_ h_.symm) (fun h_ => ((Kd.R_mono (ok' := fun k_ => ((fun _ => True)) k_ ∧ some k_ ≠ (.slice Ao7 x3_1.length co7 : Value).ownBlock) (Kd.R_apart' (HO169.out) (Kd.S_typed HO_3.out) (by decide)) (fun k_ hk => ⟨trivial, hk.2⟩))).1 k_ h_.symm)) ?aF ?aO ?aB ?aS ?aL ?_
        (case aP => exact k47_mkM _ _ _ (⟨y160, y167⟩ : S47) (Kd.R_mono (Kd.R_tight rfl (Kd.R_mono (ok' := fun k_ => ((fun _ => True)) k_ ∧ some k_ ≠ (.slice Ao7 x3_1.length co7 : Value).ownBlock) (Kd.R_apart' (HO162.out) (Kd.S_typed HO_3.out) (by decide)) (fun k_ hk => ⟨trivial, hk.2⟩))) (fun _ h_ => Or.inl h_)) (Kd.R_mono (Kd.R_tight rfl (Kd.R_mono (ok' := fun k_ => ((fun _ => True)) k_ ∧ some k_ ≠ (.slice Ao7 x3_1.length co7 : Value).ownBlock) (Kd.R_apart' (HO169.out) (Kd.S_typed HO_3.out) (by decide)) (fun k_ hk => ⟨trivial, hk.2⟩))) (fun _ h_ => Or.inr (h_))))
        (case aB => exact (by repeat (first | (with_reducible first | exact HB.out | apply below_alloc | apply pw_below_drewN | apply below_drew1) | exact HB.out)))
        (case aF => exact (fun _ _ => trivial))
        (case aO => exact (by (with_reducible repeat (first | apply Kd.S_alloc | apply Kd.S_drewN | apply Kd.S_drew)); exact Kd.S_mono HO_3.out (fun k_ hk => ⟨trivial, fun e_ => e_.elim (fun h_ => hk.1 h_) (fun h_ => hk.2 h_)⟩)))
        (case aS => exact (below_size (by repeat (first | (with_reducible first | exact HB.out | apply below_alloc | apply pw_below_drewN | apply below_drew1) | exact HB.out))))
        (case aL => have := LMc6.out; omega)
        intro v171 w18 ho hb hg hat
        rw [← Ny170.out] at ho
        have n0_ := Aside0.mk (hb)
        have n1_ := Aside0.mk (ho)
        clear HB
        clear HO_3
        clear HO162
        clear HO169
        have HB := n0_
        have HO172 := n1_
        clear n0_ n1_
        clear ho hb hg hat
        refine hK.out _ _ ⟨((HB.out.cell (World.block_lt_of_cell? w _ hw159_0)).trans hw159_0), ((HB.out.cell (World.block_lt_of_cell? w _ hw159_1)).trans hw159_1), ((HB.out.cell (World.block_lt_of_cell? w _ hw166_0)).trans hw166_0), ((HB.out.cell (World.block_lt_of_cell? w _ hw166_1)).trans hw166_1)⟩ (fun hHeld => ?_)
        clear hK K
        refine norm_ (show Act.put _ (some 28) _ = _ by simp only [pu, s0, s1, i64_w, i32_w]; rfl) ?_
        refine pq 18 3 (bz 19 524287) (any_of HT_.out (by kernel_rfl)) ?_
        refine done_ (done_of HT_.out (by kernel_rfl)) ?_
        try go_wp2
        go_roundg k1
        case measure => have := HK1.out; omega
        case rel => exact ⟨(y170), (wrap64 (x4_1 + 1)), (by first | rfl | (simp; done) | (simp [*]; done)), H', ⟨by have := HK1.out; omega⟩, ⟨by (with_reducible repeat (first | apply Kd.S_alloc | apply Kd.S_drewN | apply Kd.S_drew)); exact HO172.out⟩, ⟨by repeat (first | (with_reducible first | exact HB.out | apply below_alloc | apply pw_below_drewN | apply below_drew1) | exact HB.out)⟩⟩
       ·rw [if_neg c6] at H
        exact absurd H (by simp)
      ·rw [if_neg c5] at H
       exact absurd H (by simp)
     ·rw [if_neg c4] at H
      exact absurd H (by simp)
    ·rw [if_neg c3] at H
     exact absurd H (by simp)
   ·rw [if_neg c2] at H
    have c2b0 : decide (x4_1 < (l0.length : Int)) = false := decide_eq_false c2
    clear c2
    obtain rfl := Option.some.inj H
    go_wp2
    go_ret
    exact ⟨_, by first | rfl | (simp [errW_none, errW_some] <;> rfl) | (simp [*, errW_none, errW_some] <;> rfl), by (with_reducible repeat (first | apply Kd.S_alloc | apply Kd.S_drewN | apply Kd.S_drew)); exact HO_3.out, by repeat (first | (with_reducible first | exact HB.out | apply below_alloc | apply pw_below_drewN | apply below_drew1) | exact HB.out)⟩

end Go.Proofs.YtfbockgjhbfidaaGreatDoor.Pr
end

section
-- Written by a program of this session (wip/hook.py) out of the translation. Not trusted: Lean checks it.
namespace Go.Proofs.YtfbockgjhbfidaaGreatDoor.Pr
open Go.RowKit Go.Proofs.YtfbockgjhbfidaaGreatDoorW.PrintWords Go.Proofs.YtfbockgjhbfidaaGreatDoorW.PrintLast Go.Proofs.YtfbockgjhbfidaaGreatDoorW.PrintMore
attribute [local go_sem] max2_int min2_int max_two min_two max_three min_three max_four min_four   -- for this text's walks alone
set_option linter.unusedVariables false
set_option linter.unusedSimpArgs false

/-! ### soundingsref05_Find: function 11 -/
mutual
def soundingsref05_Find.l0 : Nat → List (S47) → List (S44) → Int → Int → Option (Int × Bool)
 | 0, _, _, _, _ => none
 | k + 1, x0, x1, x6, x7 => if x7 ≥ 0 then (if 0 ≤ x7 then (if x7 < (x0.length : Int) then ((soundingsref01_Cmp.f k ((rd_T47 x0 x7).f0) x1).bind fun t289 => (if t289 ≥ 0 then (soundingsref05_Find.l0 k x0 x1 x7 (wrap64 (x7 - 1))) else (soundingsref05_Find.l0 k x0 x1 x6 (wrap64 (x7 - 1))))) else (none)) else (none)) else (soundingsref05_Find.l1 k x0 x1 x6 0)
def soundingsref05_Find.l1 : Nat → List (S47) → List (S44) → Int → Int → Option (Int × Bool)
 | 0, _, _, _, _ => none
 | k + 1, x0, x1, x6, x8 => if x8 < (x0.length : Int) then (if 0 ≤ x8 then ((soundingsref01_Cmp.f k ((rd_T47 x0 x8).f0) x1).bind fun t291 => (if t291 = 0 then (some (x8, true)) else (soundingsref05_Find.l1 k x0 x1 x6 (wrap64 (x8 + 1))))) else (none)) else (some (x6, false))
end
def soundingsref05_Find.f (k : Nat) (l0 : List (S47)) (l1 : List (S44)) : Option (Int × Bool) := soundingsref05_Find.l0 k l0 l1 (l0.length : Int) (wrap64 ((l0.length : Int) - 1))
theorem soundingsref05_Find.mono_l : ∀ k, (∀ y0 y1 y2 y3, LeO (soundingsref05_Find.l0 k y0 y1 y2 y3) (soundingsref05_Find.l0 (k + 1) y0 y1 y2 y3)) ∧ (∀ y0 y1 y2 y3, LeO (soundingsref05_Find.l1 k y0 y1 y2 y3) (soundingsref05_Find.l1 (k + 1) y0 y1 y2 y3))
 | 0 => ⟨fun _ _ _ _ r h => by simp [soundingsref05_Find.l0] at h, fun _ _ _ _ r h => by simp [soundingsref05_Find.l1] at h⟩
 | k + 1 => by
  obtain ⟨ih0, ih1⟩ := soundingsref05_Find.mono_l k
  refine ⟨?_, ?_⟩
  ·intro y0 y1 y2 y3
   unfold soundingsref05_Find.l0
   repeat' first
   | (with_reducible exact ih0 _ _ _ _)
   | (with_reducible exact ih1 _ _ _ _)
   | (with_reducible exact soundingsref01_Cmp.mono _ _ _)
   | (with_reducible exact LeO.refl _)
   | (with_reducible exact LeO.none _)
   | (with_reducible refine LeO.ite ?_ ?_)
   | (with_reducible refine LeO.bind ?_ (fun _ => ?_))
   | exact ih0 _ _ _ _
   | exact ih1 _ _ _ _
   | exact soundingsref01_Cmp.mono _ _ _
   | exact LeO.none _
   | refine LeO.ite ?_ ?_
   | refine LeO.bind ?_ (fun _ => ?_)
  ·intro y0 y1 y2 y3
   unfold soundingsref05_Find.l1
   repeat' first
   | (with_reducible exact ih0 _ _ _ _)
   | (with_reducible exact ih1 _ _ _ _)
   | (with_reducible exact soundingsref01_Cmp.mono _ _ _)
   | (with_reducible exact LeO.refl _)
   | (with_reducible exact LeO.none _)
   | (with_reducible refine LeO.ite ?_ ?_)
   | (with_reducible refine LeO.bind ?_ (fun _ => ?_))
   | exact ih0 _ _ _ _
   | exact ih1 _ _ _ _
   | exact soundingsref01_Cmp.mono _ _ _
   | exact LeO.none _
   | refine LeO.ite ?_ ?_
   | refine LeO.bind ?_ (fun _ => ?_)
theorem soundingsref05_Find.mono : ∀ a0 a1 k, LeO (soundingsref05_Find.f k a0 a1) (soundingsref05_Find.f (k + 1) a0 a1) := by
 intro a0 a1 k
 obtain ⟨ih0, ih1⟩ := soundingsref05_Find.mono_l k
 unfold soundingsref05_Find.f
 repeat' first
   | (with_reducible exact ih0 _ _ _ _)
   | (with_reducible exact ih1 _ _ _ _)
   | (with_reducible exact soundingsref01_Cmp.mono _ _ _)
   | (with_reducible exact LeO.refl _)
   | (with_reducible exact LeO.none _)
   | (with_reducible refine LeO.ite ?_ ?_)
   | (with_reducible refine LeO.bind ?_ (fun _ => ?_))
   | exact ih0 _ _ _ _
   | exact ih1 _ _ _ _
   | exact soundingsref01_Cmp.mono _ _ _
   | exact LeO.none _
   | refine LeO.ite ?_ ?_
   | refine LeO.bind ?_ (fun _ => ?_)
set_option maxHeartbeats 8000000 in
set_option maxRecDepth 100000 in
theorem soundingsref05_Find.calls (k : Nat) (A0 : Option Addr) (c0 : Nat) (l0 : List (S47)) (A1 : Option Addr) (c1 : Nat) (l1 : List (S44)) (r1 : Int) (r2 : Bool) (w : World) (hr0 : Kd.C k47 w A0 l0.length l0) (hc0 : l0.length ≤ c0) (hr1 : Kd.C k44 w A1 l1.length l1) (hc1 : l1.length ≤ c1) (h : soundingsref05_Find.f k l0 l1 = some (r1, r2)) :
  Calls Tryz.prog 11 #[.slice A0 l0.length c0, .slice A1 l1.length c1] w fun e w' => e = .returned (.tuple #[.int .i64 r1, .bool r2]) ∧ Drawn0 w w' := by
 have HR0 := Aside0.mk hr0
 have HC0 := Aside0.mk hc0
 clear hr0 hc0
 have HR1 := Aside0.mk hr1
 have HC1 := Aside0.mk hc1
 clear hr1 hc1
 have H : (soundingsref05_Find.l0 k l0 l1 (l0.length : Int) (wrap64 ((l0.length : Int) - 1))) = some (r1, r2) := h
 clear h
 have H' := Aside0.mk H
 clear H
 go_enter Tryz.func11, Tryz.ntmps11
 go_wp2
 go_loopg [6, 7] k (fun kq v6 v7 w' => ∃ (x6_1 : Int) (x7_1 : Int), v6 = .int .i64 x6_1 ∧ v7 = .int .i64 x7_1 ∧ Aside0 (soundingsref05_Find.l0 kq l0 l1 x6_1 x7_1 = some (r1, r2)) ∧ Aside0 (kq ≤ k) ∧ Drawn0 w w')
 case atStart => exact ⟨((l0.length : Int)), (wrap64 ((l0.length : Int) - 1)), (by first | rfl | (simp; done) | (simp [*]; done)), (by first | rfl | (simp; done) | (simp [*]; done)), H', ⟨Nat.le_refl _⟩, by repeat (first | exact Drawn0.refl _ | apply Drawn0.step)⟩
 case round =>
  clear H'
  try clear c1
  try clear p2
  obtain ⟨x6_1, x7_1, rfl, rfl, HA, HK1, ⟨m1, rfl⟩⟩ := hrel
  cases gk with
  | zero => exact absurd HA.out (by simp [soundingsref05_Find.l0])
  | succ k1 =>
   have H := HA.out
   clear HA
   simp only [soundingsref05_Find.l0] at H
   by_cases c3 : x7_1 ≥ 0
   ·rw [if_pos c3] at H
    have c3b0 : decide (0 ≤ x7_1) = true := decide_eq_true c3
    clear c3
    by_cases c4 : 0 ≤ x7_1
    ·rw [if_pos c4] at H
     have c4b0 : decide (0 ≤ x7_1) = true := decide_eq_true c4
     clear c4
     by_cases c5 : x7_1 < (l0.length : Int)
     ·rw [if_pos c5] at H
      have c5b0 : decide (x7_1 < (l0.length : Int)) = true := decide_eq_true c5
      clear c5
      replace H := Option.bind_eq_some_iff.mp H
      obtain ⟨t289, A60, H⟩ := H
      replace H : (if t289 ≥ 0 then (soundingsref05_Find.l0 k1 l0 l1 x7_1 (wrap64 (x7_1 - 1))) else (soundingsref05_Find.l0 k1 l0 l1 x6_1 (wrap64 (x7_1 - 1)))) = some (r1, r2) := H
      have A6 := Aside0.mk A60
      clear A60
      by_cases c7 : t289 ≥ 0
      ·rw [if_pos c7] at H
       have c7b0 : decide (0 ≤ t289) = true := decide_eq_true c7
       clear c7
       have H' := Aside0.mk H
       clear H
       have p288 : 0 ≤ (x7_1 : Int) := of_decide_eq_true (by first | (with_reducible assumption) | assumption)
       have q288 : x7_1 < (l0.length : Int) := of_decide_eq_true (by first | (with_reducible assumption) | assumption)
       obtain ⟨ad288, A288_0, c288_0, A288_1, c288_1, e288, hx288_0, hx288_1, hl288_0, hi288_0, hl288_1, hi288_1⟩ := at_T47 HR0.out x7_1 p288 q288
       cases e288
       have HR288_0 := Aside0.mk hi288_0
       have HC288_0 := Aside0.mk hl288_0
       clear hi288_0 hl288_0
       have HR288_1 := Aside0.mk hi288_1
       have HC288_1 := Aside0.mk hl288_1
       clear hi288_1 hl288_1
       replace p288 := eq_true p288
       replace q288 := eq_true q288
       go_wp2_with (first | ((with_reducible refine gate_callee (f := 25) rfl ?_); refine goesL_ (some 24) rfl rfl Tryz.func25 (by kernel_rfl) rfl #[.slice A288_0 ((rd_T47 l0 x7_1).f0).length c288_0, .slice A1 l1.length c1] rfl (by (try simp only [List.map_toArray, List.map_cons, List.map_nil]); first | done | rfl | (simp only [List.length_drop, List.length_take]; rfl)) ?_; (with_reducible refine (soundingsref01_Cmp.calls k1 _ _ ((rd_T47 l0 x7_1).f0) _ _ l1 t289 _ ?side1 ?side2 ?side3 ?side4 A6.out).mono ?_); (case side1 => repeat (first | exact HR288_0.out | (with_reducible refine Kd.C_alloc ?_ _) | (with_reducible refine Kd.C_drewN ?_ _) | (with_reducible refine Kd.C_drew ?_))); (case side2 => exact HC288_0.out); (case side3 => repeat (first | exact HR1.out | (with_reducible refine Kd.C_alloc ?_ _) | (with_reducible refine Kd.C_drewN ?_ _) | (with_reducible refine Kd.C_drew ?_))); (case side4 => exact HC1.out); rintro e w' ⟨rfl, ⟨nd, rfl⟩⟩; refine ⟨_, rfl, ?_⟩))
       go_roundg k1
       case measure => have := HK1.out; omega
       case rel => exact ⟨(x7_1), (wrap64 (x7_1 - 1)), (by first | rfl | (simp; done) | (simp [*]; done)), (by first | rfl | (simp; done) | (simp [*]; done)), H', ⟨by have := HK1.out; omega⟩, by repeat (first | exact Drawn0.refl _ | apply Drawn0.step)⟩
      ·rw [if_neg c7] at H
       have c7b0 : decide (0 ≤ t289) = false := decide_eq_false c7
       clear c7
       have H' := Aside0.mk H
       clear H
       have p288 : 0 ≤ (x7_1 : Int) := of_decide_eq_true (by first | (with_reducible assumption) | assumption)
       have q288 : x7_1 < (l0.length : Int) := of_decide_eq_true (by first | (with_reducible assumption) | assumption)
       obtain ⟨ad288, A288_0, c288_0, A288_1, c288_1, e288, hx288_0, hx288_1, hl288_0, hi288_0, hl288_1, hi288_1⟩ := at_T47 HR0.out x7_1 p288 q288
       cases e288
       have HR288_0 := Aside0.mk hi288_0
       have HC288_0 := Aside0.mk hl288_0
       clear hi288_0 hl288_0
       have HR288_1 := Aside0.mk hi288_1
       have HC288_1 := Aside0.mk hl288_1
       clear hi288_1 hl288_1
       replace p288 := eq_true p288
       replace q288 := eq_true q288
       go_wp2_with (first | ((with_reducible refine gate_callee (f := 25) rfl ?_); refine goesL_ (some 24) rfl rfl Tryz.func25 (by kernel_rfl) rfl #[.slice A288_0 ((rd_T47 l0 x7_1).f0).length c288_0, .slice A1 l1.length c1] rfl (by (try simp only [List.map_toArray, List.map_cons, List.map_nil]); first | done | rfl | (simp only [List.length_drop, List.length_take]; rfl)) ?_; (with_reducible refine (soundingsref01_Cmp.calls k1 _ _ ((rd_T47 l0 x7_1).f0) _ _ l1 t289 _ ?side1 ?side2 ?side3 ?side4 A6.out).mono ?_); (case side1 => repeat (first | exact HR288_0.out | (with_reducible refine Kd.C_alloc ?_ _) | (with_reducible refine Kd.C_drewN ?_ _) | (with_reducible refine Kd.C_drew ?_))); (case side2 => exact HC288_0.out); (case side3 => repeat (first | exact HR1.out | (with_reducible refine Kd.C_alloc ?_ _) | (with_reducible refine Kd.C_drewN ?_ _) | (with_reducible refine Kd.C_drew ?_))); (case side4 => exact HC1.out); rintro e w' ⟨rfl, ⟨nd, rfl⟩⟩; refine ⟨_, rfl, ?_⟩))
       go_roundg k1
       case measure => have := HK1.out; omega
       case rel => exact ⟨(x6_1), (wrap64 (x7_1 - 1)), (by first | rfl | (simp; done) | (simp [*]; done)), (by first | rfl | (simp; done) | (simp [*]; done)), H', ⟨by have := HK1.out; omega⟩, by repeat (first | exact Drawn0.refl _ | apply Drawn0.step)⟩
     ·rw [if_neg c5] at H
      exact absurd H (by simp)
    ·rw [if_neg c4] at H
     exact absurd H (by simp)
   ·rw [if_neg c3] at H
    have c3b0 : decide (0 ≤ x7_1) = false := decide_eq_false c3
    clear c3
    have H' := Aside0.mk H
    clear H
    go_wp2
    go_loopg [8] k1 (fun kq v8 w' => ∃ (x8_2 : Int), v8 = .int .i64 x8_2 ∧ Aside0 (soundingsref05_Find.l1 kq l0 l1 x6_1 x8_2 = some (r1, r2)) ∧ Aside0 (kq ≤ k1) ∧ Drawn0 w w')
    case atStart => exact ⟨(0), (by first | rfl | (simp; done) | (simp [*]; done)), H', ⟨Nat.le_refl _⟩, by repeat (first | exact Drawn0.refl _ | apply Drawn0.step)⟩
    case round =>
     clear H'
     try clear c1
     try clear c2
     try clear p2
     try clear q2
     try clear hx2
     try clear c3
     try clear c3b0
     try clear c4
     try clear c4b0
     try clear c5
     try clear c5b0
     try clear p6
     try clear c7
     try clear c7b0
     try clear hx288_0
     try clear hx288_1
     try clear p2
     try clear p288
     try clear q288
     obtain ⟨x8_2, rfl, HA, HK2, ⟨m2, rfl⟩⟩ := hrel
     cases gk with
     | zero => exact absurd HA.out (by simp [soundingsref05_Find.l1])
     | succ k2 =>
      have H := HA.out
      clear HA
      simp only [soundingsref05_Find.l1] at H
      by_cases c8 : x8_2 < (l0.length : Int)
      ·rw [if_pos c8] at H
       have c8b0 : decide (x8_2 < (l0.length : Int)) = true := decide_eq_true c8
       clear c8
       by_cases c9 : 0 ≤ x8_2
       ·rw [if_pos c9] at H
        have c9b0 : decide (0 ≤ x8_2) = true := decide_eq_true c9
        clear c9
        replace H := Option.bind_eq_some_iff.mp H
        obtain ⟨t291, A100, H⟩ := H
        replace H : (if t291 = 0 then (some (x8_2, true)) else (soundingsref05_Find.l1 k2 l0 l1 x6_1 (wrap64 (x8_2 + 1)))) = some (r1, r2) := H
        have A10 := Aside0.mk A100
        clear A100
        by_cases c11 : t291 = 0
        ·rw [if_pos c11] at H
         have c11b0 : (t291 == 0) = true := beq_iff_eq.mpr c11
         have c11b1 : (t291 != 0) = false := bne_eq_false_iff_eq.mpr c11
         clear c11
         simp only [Option.some.injEq, Prod.mk.injEq] at H
         obtain ⟨rfl, rfl⟩ := H
         have p290 : 0 ≤ (x8_2 : Int) := of_decide_eq_true (by first | (with_reducible assumption) | assumption)
         have q290 : x8_2 < (l0.length : Int) := of_decide_eq_true (by first | (with_reducible assumption) | assumption)
         obtain ⟨ad290, A290_0, c290_0, A290_1, c290_1, e290, hx290_0, hx290_1, hl290_0, hi290_0, hl290_1, hi290_1⟩ := at_T47 HR0.out x8_2 p290 q290
         cases e290
         have HR290_0 := Aside0.mk hi290_0
         have HC290_0 := Aside0.mk hl290_0
         clear hi290_0 hl290_0
         have HR290_1 := Aside0.mk hi290_1
         have HC290_1 := Aside0.mk hl290_1
         clear hi290_1 hl290_1
         replace p290 := eq_true p290
         replace q290 := eq_true q290
         go_wp2_with (first | ((with_reducible refine gate_callee (f := 25) rfl ?_); refine goesL_ (some 39) rfl rfl Tryz.func25 (by kernel_rfl) rfl #[.slice A290_0 ((rd_T47 l0 x8_2).f0).length c290_0, .slice A1 l1.length c1] rfl (by (try simp only [List.map_toArray, List.map_cons, List.map_nil]); first | done | rfl | (simp only [List.length_drop, List.length_take]; rfl)) ?_; (with_reducible refine (soundingsref01_Cmp.calls k2 _ _ ((rd_T47 l0 x8_2).f0) _ _ l1 t291 _ ?side1 ?side2 ?side3 ?side4 A10.out).mono ?_); (case side1 => repeat (first | exact HR290_0.out | (with_reducible refine Kd.C_alloc ?_ _) | (with_reducible refine Kd.C_drewN ?_ _) | (with_reducible refine Kd.C_drew ?_))); (case side2 => exact HC290_0.out); (case side3 => repeat (first | exact HR1.out | (with_reducible refine Kd.C_alloc ?_ _) | (with_reducible refine Kd.C_drewN ?_ _) | (with_reducible refine Kd.C_drew ?_))); (case side4 => exact HC1.out); rintro e w' ⟨rfl, ⟨nd, rfl⟩⟩; refine ⟨_, rfl, ?_⟩))
         go_ret2
         exact ⟨by first | rfl | (simp; done) | (simp [*]; done), by repeat (first | exact Drawn0.refl _ | apply Drawn0.step)⟩
        ·rw [if_neg c11] at H
         have c11b0 : (t291 == 0) = false := beq_eq_false_iff_ne.mpr c11
         have c11b1 : (t291 != 0) = true := bne_iff_ne.mpr c11
         have H' := Aside0.mk H
         clear H
         have p290 : 0 ≤ (x8_2 : Int) := of_decide_eq_true (by first | (with_reducible assumption) | assumption)
         have q290 : x8_2 < (l0.length : Int) := of_decide_eq_true (by first | (with_reducible assumption) | assumption)
         obtain ⟨ad290, A290_0, c290_0, A290_1, c290_1, e290, hx290_0, hx290_1, hl290_0, hi290_0, hl290_1, hi290_1⟩ := at_T47 HR0.out x8_2 p290 q290
         cases e290
         have HR290_0 := Aside0.mk hi290_0
         have HC290_0 := Aside0.mk hl290_0
         clear hi290_0 hl290_0
         have HR290_1 := Aside0.mk hi290_1
         have HC290_1 := Aside0.mk hl290_1
         clear hi290_1 hl290_1
         replace p290 := eq_true p290
         replace q290 := eq_true q290
         go_wp2_with (first | ((with_reducible refine gate_callee (f := 25) rfl ?_); refine goesL_ (some 39) rfl rfl Tryz.func25 (by kernel_rfl) rfl #[.slice A290_0 ((rd_T47 l0 x8_2).f0).length c290_0, .slice A1 l1.length c1] rfl (by (try simp only [List.map_toArray, List.map_cons, List.map_nil]); first | done | rfl | (simp only [List.length_drop, List.length_take]; rfl)) ?_; (with_reducible refine (soundingsref01_Cmp.calls k2 _ _ ((rd_T47 l0 x8_2).f0) _ _ l1 t291 _ ?side1 ?side2 ?side3 ?side4 A10.out).mono ?_); (case side1 => repeat (first | exact HR290_0.out | (with_reducible refine Kd.C_alloc ?_ _) | (with_reducible refine Kd.C_drewN ?_ _) | (with_reducible refine Kd.C_drew ?_))); (case side2 => exact HC290_0.out); (case side3 => repeat (first | exact HR1.out | (with_reducible refine Kd.C_alloc ?_ _) | (with_reducible refine Kd.C_drewN ?_ _) | (with_reducible refine Kd.C_drew ?_))); (case side4 => exact HC1.out); rintro e w' ⟨rfl, ⟨nd, rfl⟩⟩; refine ⟨_, rfl, ?_⟩))
         go_roundg k2
         case measure => have := HK1.out; have := HK2.out; omega
         case rel => exact ⟨(wrap64 (x8_2 + 1)), (by first | rfl | (simp; done) | (simp [*]; done)), H', ⟨by have := HK1.out; have := HK2.out; omega⟩, by repeat (first | exact Drawn0.refl _ | apply Drawn0.step)⟩
       ·rw [if_neg c9] at H
        exact absurd H (by simp)
      ·rw [if_neg c8] at H
       have c8b0 : decide (x8_2 < (l0.length : Int)) = false := decide_eq_false c8
       clear c8
       simp only [Option.some.injEq, Prod.mk.injEq] at H
       obtain ⟨rfl, rfl⟩ := H
       go_wp2
       go_ret2
       exact ⟨by first | rfl | (simp; done) | (simp [*]; done), by repeat (first | exact Drawn0.refl _ | apply Drawn0.step)⟩

end Go.Proofs.YtfbockgjhbfidaaGreatDoor.Pr
end

section
set_option linter.unusedVariables false
set_option linter.unusedSimpArgs false
namespace Go.Proofs.YtfbockgjhbfidaaGreatDoor.Pr
open Go.RowKit Go.Proofs.Fl Go.Proofs.YtfbockgjhbfidaaGreatDoorW.PrintWords

/-- With the new one put already, nothing is added. -/
theorem refGo_put (m : Lbs) (t nv : Int) : ∀ (s out : List Ser), (∀ x ∈ s, 0 < cmpLs x.f0 m) → refGo m t nv s true out = some (out ++ s)
 | [], out, _ => by unfold refGo; rw [if_pos rfl, List.append_nil]
 | x :: r, out, h => by
  have hx := h x List.mem_cons_self
  unfold refGo
  rw [if_neg (by omega), if_pos hx, if_pos rfl, refGo_put m t nv r (out ++ [x]) (fun y hy => h y (List.mem_cons_of_mem _ hy)), List.append_assoc]
  rfl
theorem refGo_ins (m : Lbs) (t nv : Int) : ∀ (s out : List Ser), AscS s → refGo m t nv s false out = (ins m t nv s).map (out ++ ·)
 | [], out, _ => rfl
 | x :: r, out, h => by
  obtain ⟨hx, hr⟩ := asc_tail h
  unfold refGo ins
  by_cases h1 : cmpLs x.f0 m < 0
  ·rw [if_neg (by omega), if_neg (by omega), if_pos h1, refGo_ins m t nv r (out ++ [x]) hr]
   cases ins m t nv r with
   | none => rfl
   | some o => simp
  ·have up : ∀ y ∈ r, ¬ cmpLs x.f0 m < 0 → 0 < cmpLs y.f0 m := fun y hy h2 => by
    have h3 := hx y hy
    have h4 : cmpLs m x.f0 ≤ 0 := by rw [cmpLs_neg]; omega
    have h5 := cmpLs_trans _ _ _ h4 (Int.le_of_lt h3)
    by_cases h6 : cmpLs m y.f0 = 0
    ·exfalso
     have e := (cmpLs_zero _ _).1 h6
     rw [← e] at h3
     omega
    ·rw [cmpLs_neg] at h5 h6; omega
   rw [if_neg h1]
   by_cases h2 : cmpLs x.f0 m = 0
   ·rw [if_pos h2, if_pos h2]
    by_cases h3 : (x.f1.getLastD z26).f0 ≥ t
    ·rw [if_pos h3, if_pos h3]; rfl
    ·rw [if_neg h3, if_neg h3, refGo_put m t nv r _ (fun y hy => up y hy h1)]
     simp
   ·rw [if_neg h2, if_neg h2, if_pos (by omega), if_neg (by decide), refGo_put m t nv r _ (fun y hy => up y hy h1)]
    simp
/-! ### Find -/
theorem find1_l1 (s : List Ser) (l : Lbs) (ho : okS s) (hl : l.length ≤ 1000000) (a : Int) : ∀ (d i k : Nat), i + d = s.length → d + 3000000 < k → soundingsref05_Find.l1 k s l a (i : Int) = some (match firstFrom (eqP l) (s.drop i) i with | some j => ((j : Nat), true) | none => (a, false))
 | 0, i, k, hi, hk => by
  obtain ⟨k, rfl⟩ : ∃ n, k = n + 1 := ⟨k - 1, by omega⟩
  rw [soundingsref05_Find.l1, if_neg (by omega), List.drop_eq_nil_of_le (by omega)]
  rfl
 | d + 1, i, k, hi, hk => by
  obtain ⟨k, rfl⟩ : ∃ n, k = n + 1 := ⟨k - 1, by omega⟩
  have hlt : i < s.length := by omega
  have h1 := ho.1
  have hx := (ho.2 s[i] (List.getElem_mem hlt)).1.1
  have hw : wrap64 ((i : Int) + 1) = ((i + 1 : Nat) : Int) := by unfold wrap64; omega
  rw [soundingsref05_Find.l1, if_pos (by omega), if_pos (by omega), rdX_at s i hlt, refCmp_some _ _ (by omega) (by omega) k (by omega), Option.bind_some, List.drop_eq_getElem_cons hlt]
  unfold firstFrom
  by_cases h : cmpLs (s[i]).f0 l = 0
  ·rw [if_pos h, if_pos (by unfold eqP; rw [h]; rfl)]
  ·rw [if_neg h, if_neg (by unfold eqP; rw [beq_iff_eq]; exact h), hw]
   exact find1_l1 s l ho hl a d (i + 1) k (by omega) (by omega)
/-- The first that is not less. -/
theorem find1_l0 (s : List Ser) (l : Lbs) (ho : okS s) (hl : l.length ≤ 1000000) : ∀ (i a k : Nat), i ≤ s.length → a ≤ s.length → 2 * s.length + 4000000 + i < k → (a = i + ((s.drop i).takeWhile fun x => decide (cmpLs x.f0 l < 0)).length) → soundingsref05_Find.l0 k s l (a : Int) ((i : Int) - 1) = some (findV s l)
 | 0, a, k, hi, ha, hk, he => by
  obtain ⟨k, rfl⟩ : ∃ n, k = n + 1 := ⟨k - 1, by omega⟩
  have h2 := find1_l1 s l ho hl (a : Int) s.length 0 k (by omega) (by omega)
  rw [List.drop_zero, Nat.zero_add] at he
  rw [List.drop_zero] at h2
  rw [soundingsref05_Find.l0, if_neg (by omega), show soundingsref05_Find.l1 k s l (a : Int) 0 = _ from h2]
  unfold findV
  subst he
  cases firstFrom (eqP l) s 0 <;> rfl
 | i + 1, a, k, hi, ha, hk, he => by
  obtain ⟨k, rfl⟩ : ∃ n, k = n + 1 := ⟨k - 1, by omega⟩
  have hlt : i < s.length := by omega
  have h1 := ho.1
  have hx := (ho.2 s[i] (List.getElem_mem hlt)).1.1
  have hw : wrap64 ((i : Int) - 1) = (i : Int) - 1 := by unfold wrap64; omega
  have e : (((i + 1 : Nat) : Int) - 1) = (i : Int) := by omega
  have htw : ((s.drop i).takeWhile fun x => decide (cmpLs x.f0 l < 0)) = if cmpLs (s[i]).f0 l < 0 then s[i] :: ((s.drop (i + 1)).takeWhile fun x => decide (cmpLs x.f0 l < 0)) else [] := by
   rw [List.drop_eq_getElem_cons hlt, List.takeWhile_cons]
   by_cases h : cmpLs (s[i]).f0 l < 0
   ·rw [if_pos (decide_eq_true h), if_pos h]
   ·rw [if_neg (by rw [decide_eq_false h]; decide), if_neg h]
  rw [e, soundingsref05_Find.l0, if_pos (by omega), if_pos (by omega), if_pos (by omega), rdX_at s i hlt, refCmp_some _ _ (by omega) (by omega) k (by omega), Option.bind_some, hw]
  by_cases h : cmpLs (s[i]).f0 l ≥ 0
  ·rw [if_pos h]
   exact find1_l0 s l ho hl i i k (by omega) (by omega) (by omega) (by rw [htw, if_neg (by omega)]; rfl)
  ·rw [if_neg h]
   exact find1_l0 s l ho hl i a k (by omega) ha (by omega) (by rw [htw, if_pos (by omega), he]; simp only [List.length_cons]; omega)
theorem refFind_some (s : List Ser) (l : Lbs) (ho : okS s) (hl : l.length ≤ 1000000) : soundingsref05_Find.f (3 * s.length + 4000001) s l = some (findV s l) := by
 have h1 := ho.1
 have hw : wrap64 ((s.length : Int) - 1) = (s.length : Int) - 1 := by unfold wrap64; omega
 unfold soundingsref05_Find.f
 rw [hw]
 exact find1_l0 s l ho hl s.length s.length _ (Nat.le_refl _) (Nat.le_refl _) (by omega) (by rw [List.drop_length]; rfl)
/-! ### Copy -/
theorem copy_l0 (s : List Ser) (ho : okS s) : ∀ (d i k : Nat), i + d = s.length → d < k → soundingsref05_Copy.l0 k s (s.take i) (i : Int) = some s
 | 0, i, k, hi, hk => by
  obtain ⟨k, rfl⟩ : ∃ n, k = n + 1 := ⟨k - 1, by omega⟩
  rw [soundingsref05_Copy.l0, if_neg (by omega), List.take_of_length_le (by omega)]
 | d + 1, i, k, hi, hk => by
  obtain ⟨k, rfl⟩ : ∃ n, k = n + 1 := ⟨k - 1, by omega⟩
  have hlt : i < s.length := by omega
  have h1 := ho.1
  obtain ⟨⟨hx, _⟩, hp⟩ := ho.2 s[i] (List.getElem_mem hlt)
  have hw : wrap64 ((i : Int) + 1) = ((i + 1 : Nat) : Int) := by unfold wrap64; omega
  have ht : (s.take i).length = i := List.length_take_of_le (by omega)
  rw [soundingsref05_Copy.l0, if_pos (by omega), Option.bind_some, if_pos (by omega), rdX_at s i hlt, if_pos (by simp only [List.length_nil]; omega), Option.bind_some, if_pos (by simp only [List.length_nil]; omega), if_pos (by omega), hw]
  have e : s.take i ++ [(⟨[] ++ (s[i]).f0, [] ++ (s[i]).f1⟩ : Ser)] = s.take (i + 1) := by rw [List.take_succ_eq_append_getElem hlt]; rfl
  rw [e]
  exact copy_l0 s ho d (i + 1) k (by omega) (by omega)
theorem copy_some (s : List Ser) (ho : okS s) : soundingsref05_Copy.f (s.length + 1) s = some s := by
 have := copy_l0 s ho s.length 0 (s.length + 1) (by omega) (by omega)
 rwa [List.take_zero] at this
end Go.Proofs.YtfbockgjhbfidaaGreatDoor.Pr
end
