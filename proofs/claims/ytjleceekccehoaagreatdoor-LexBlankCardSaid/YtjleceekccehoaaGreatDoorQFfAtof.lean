/- Texts of this session, cut down to what one claim needs and joined: FfAtof. -/
import Derived.Test.YtjleceekccehoaaGreatDoorQFfExact
import Derived.Test.YtjleceekccehoaaGreatDoorQGJ10
import Derived.Test.YtjleceekccehoaaGreatDoorQGJ12
import Derived.Test.YtjleceekccehoaaGreatDoorQFfBits2
set_option linter.unusedVariables false
set_option linter.unusedSimpArgs false
namespace Go.Proofs.YtjleceekccehoaaGreatDoor.Pr
open Go.RowKit Go.Proofs.YtjleceekccehoaaGreatDoor.Dec Go.Proofs.Fl Go.Proofs.YtjleceekccehoaaGreatDoorW.PrintWords Go.Proofs.YtjleceekccehoaaGreatDoorW.PrintLast Go.Proofs.YtjleceekccehoaaGreatDoorW.PrintMore

set_option maxHeartbeats 4000000 in
set_option maxRecDepth 100000 in
theorem special_any (l : List UInt8) (hT : NumT l) (hn : l ≠ []) (w : World) : Calls Tryz.prog 152 #[.string (bs l)] w fun e w' => e = .returned (.tuple #[.float .f64 0, .int .i64 0, .bool false]) ∧ w = w' := by
  have hsz := bs_size l
  obtain ⟨L, hL⟩ : ∃ L, l.length = L := ⟨_, rfl⟩
  have hL0 : 0 < L := by rw [← hL]; exact List.length_pos_iff.2 hn
  obtain ⟨z, hz, -, hz0⟩ := num_at hT hL 0 hL0
  have hz1 := hz0 rfl
  rw [hL] at hsz
  have t1 : ((L : Int) == 0) = false := by rw [beq_eq_false_iff_ne]; omega
  have t2 : (0 : Int) < (L : Int) := by omega
  have t3 : ((z : Int) == 43) = false := by rw [beq_eq_false_iff_ne]; omega
  have t4 : ((z : Int) == 45) = false := by rw [beq_eq_false_iff_ne]; omega
  have t5 : ((z : Int) == 105) = false := by rw [beq_eq_false_iff_ne]; omega
  have t6 : ((z : Int) == 73) = false := by rw [beq_eq_false_iff_ne]; omega
  have t7 : ((z : Int) == 110) = false := by rw [beq_eq_false_iff_ne]; omega
  have t8 : ((z : Int) == 78) = false := by rw [beq_eq_false_iff_ne]; omega
  clear hT hn hL hz0 hz1
  go_enter Tryz.func152, Tryz.ntmps152
  go_wp2_with fail
  refine bodyPost_ret (results_list (rs := [.tmp 2, .tmp 3, .tmp 4]) rfl (by simp) (.tmp (.tmp (.tmp .nil)))) rfl ?_
  exact ⟨by first | rfl | simp, rfl⟩
theorem goodZero : GoodD (List.replicate 800 (0 : Int)) 0 := ⟨List.length_replicate .., by omega, fun i x h => by omega, fun h => by omega⟩
/-- What ParseFloat asks. -/
structure LaidN (w : World) : Prop where
  f : LaidF w
  c : LaidC w
  q : LaidQ w
  t : LaidT w
  opt : w.cell? ⟨2, 0, none⟩ = some (.bool true)
theorem LaidN.below {w w' : World} (h : LaidN w) (hb : Below w.heap.size w w') : LaidN w' := ⟨h.f.below hb, h.c.below hb, h.q.below hb, h.t.below hb, pw_cell_below hb h.opt⟩
theorem take_get {l : List UInt8} {i k : Nat} {c : UInt8} (h : (l.take i)[k]? = some c) : l[k]? = some c := by
  rw [List.getElem?_take] at h
  split at h
  · exact h
  · cases h
theorem NumT.take {l : List UInt8} (h : NumT l) (i : Nat) : NumT (l.take i) := by
  have hl := h.len
  exact ⟨by rw [List.length_take]; omega, fun k c hc => h.all k c (take_get hc), fun c hc => h.fst c (take_get hc)⟩
theorem zero_dec : Tryz.zeroCells153 = decCells (List.replicate 800 0) 0 0 false false := by kernel_rfl
theorem setW_new {w0 w : World} (h : Below w0.heap.size w0 w) : SetW w0 (w.alloc (.cells Tryz.zeroCells153 153)) w.heap.size 0 := by
  rw [zero_dec]
  exact ⟨List.replicate 800 0, 0, 0, false, ⟨heap_alloc_new w _, List.length_replicate .., h.size, below_alloc h _⟩, goodZero, by omega, by omega, by omega⟩
def AtE (e : Ending) : Prop := ∃ (x : Nat) (n : Int) (v : Value), e = .returned (.tuple #[.float .f64 x, .int .i64 n, v]) ∧ ErrV v
set_option maxHeartbeats 4000000 in
set_option maxRecDepth 100000 in
theorem atof64_any (l : List UInt8) (hT : NumT l) (hn : l ≠ []) (w : World) (hN : LaidN w) : Calls Tryz.prog 123 #[.string (bs l)] w fun e w' => AtE e ∧ Below w.heap.size w w' := by
  have HN := Aside0.mk hN
  have k1 := frombits2_run
  have hsz := bs_size l
  have hln := hT.len
  have HT := Aside0.mk hT
  have HNE := Aside0.mk hn
  clear hN hT hn
  go_enter Tryz.func123, Tryz.ntmps123
  go_wp2_with fail
  refine (special_any l HT.out HNE.out _).mono ?_
  rintro e_ w' ⟨rfl, rfl⟩
  go_wp2_with fail
  refine (readFloat_any l HT.out HNE.out _).mono ?_
  rintro e_ w1 ⟨⟨M, p, tr, ok, i, rfl, hM0, hM1, hi⟩, hb1⟩
  have HB := Aside0.mk hb1
  have HI := Aside0.mk hi
  have cO := (HN.out.below hb1).opt
  clear hb1 hi
  cases ok
  · go_wp2_with fail
    refine bodyPost_ret (results_list (rs := [.tmp 2, .tmp 3, .tmp 4]) rfl (by simp) (.tmp (.tmp (.tmp .nil)))) rfl ?_
    exact ⟨⟨_, _, _, rfl, Or.inr (Or.inr rfl)⟩, HB.out⟩
  have g0 : b2u false = 0 := rfl
  by_cases hz : M = 0
  · subst hz
    go_wp2_with (first | (go_at_call 161; refine (b2u_any _ _).mono ?_; rw [g0]; rintro e_ w' ⟨rfl, ⟨m2, rfl⟩⟩))
    refine bodyPost_ret (results_list (rs := [.tmp 2, .tmp 3, .tmp 4]) rfl (by simp) (.tmp (.tmp (.tmp .nil)))) rfl ?_
    exact ⟨⟨_, _, _, rfl, Or.inl rfl⟩, below_step HB.out (by repeat (first | (with_reducible first | exact Below.refl _ _ | apply pw_below_drewN | apply below_drew1 | apply below_alloc) | exact Below.refl _ _))⟩
  have tz : (M == 0) = false := by rw [beq_eq_false_iff_ne]; exact hz
  clear hz
  by_cases hp : p > 310
  · go_wp2_with (first | (go_at_call 161; refine (b2u_any _ _).mono ?_; rw [g0]; rintro e_ w' ⟨rfl, ⟨m2, rfl⟩⟩))
    refine bodyPost_ret (results_list (rs := [.tmp 2, .tmp 3, .tmp 4]) rfl (by simp) (.tmp (.tmp (.tmp .nil)))) rfl ?_
    exact ⟨⟨_, _, _, rfl, Or.inr (Or.inl rfl)⟩, below_step HB.out (by repeat (first | (with_reducible first | exact Below.refl _ _ | apply pw_below_drewN | apply below_drew1 | apply below_alloc) | exact Below.refl _ _))⟩
  have tp : (p > 310) = False := eq_false hp
  by_cases hq : p < -345
  · go_wp2_with (first | (go_at_call 161; refine (b2u_any _ _).mono ?_; rw [g0]; rintro e_ w' ⟨rfl, ⟨m2, rfl⟩⟩))
    refine bodyPost_ret (results_list (rs := [.tmp 2, .tmp 3, .tmp 4]) rfl (by simp) (.tmp (.tmp (.tmp .nil)))) rfl ?_
    exact ⟨⟨_, _, _, rfl, Or.inl rfl⟩, below_step HB.out (by repeat (first | (with_reducible first | exact Below.refl _ _ | apply pw_below_drewN | apply below_drew1 | apply below_alloc) | exact Below.refl _ _))⟩
  have tq : (p < -345) = False := eq_false hq
  have HP := Aside0.mk (And.intro (show -345 ≤ p by omega) (show p ≤ 310 by omega))
  clear hp hq
  cases tr
  · go_wp2_with (first | (go_at_call 161; refine (b2u_any _ _).mono ?_; rw [g0]; rintro e_ w' ⟨rfl, ⟨m2, rfl⟩⟩))
    refine (exact_any M p hM0 hM1 (by have := HP.out; omega) (by have := HP.out; omega) _ ((HN.out.below (below_step HB.out (by repeat (first | (with_reducible first | exact Below.refl _ _ | apply pw_below_drewN | apply below_drew1 | apply below_alloc) | exact Below.refl _ _)))).t)).mono ?_
    rintro e_ w2 ⟨⟨x, ok2, rfl⟩, hb2⟩
    have HB2 := Aside0.mk (below_step HB.out (below_step (by repeat (first | (with_reducible first | exact Below.refl _ _ | apply pw_below_drewN | apply below_drew1 | apply below_alloc) | exact Below.refl _ _)) hb2))
    clear HB hb2
    cases ok2
    · go_wp2_with fail
      refine (parseFloat64_any M p 0 hM0 hM1 HP.out.1 HP.out.2 _ ((HN.out.below HB2.out).f)).mono ?_
      rintro e_ w3 ⟨⟨x3, v3, rfl, hv3⟩, hb3⟩
      have HB3 := Aside0.mk (below_step HB2.out hb3)
      have HV := Aside0.mk hv3
      clear HB2 hb3 hv3
      go_wp2_with fail
      refine bodyPost_ret (results_list (rs := [.tmp 2, .tmp 3, .tmp 4]) rfl (by simp) (.tmp (.tmp (.tmp .nil)))) rfl ?_
      exact ⟨⟨_, _, _, rfl, HV.out⟩, HB3.out⟩
    · go_wp2_with fail
      refine bodyPost_ret (results_list (rs := [.tmp 2, .tmp 3, .tmp 4]) rfl (by simp) (.tmp (.tmp (.tmp .nil)))) rfl ?_
      exact ⟨⟨_, _, _, rfl, Or.inl rfl⟩, HB2.out⟩
  · go_wp2_with (first | (go_at_call 161; refine (b2u_any _ _).mono ?_; rw [g0]; rintro e_ w' ⟨rfl, ⟨m2, rfl⟩⟩))
    refine (parseFloat64_any M p 0 hM0 hM1 HP.out.1 HP.out.2 _ ((HN.out.below (below_step HB.out (by repeat (first | (with_reducible first | exact Below.refl _ _ | apply pw_below_drewN | apply below_drew1 | apply below_alloc) | exact Below.refl _ _)))).f)).mono ?_
    rintro e_ w3 ⟨⟨x3, v3, rfl, hv3⟩, hb3⟩
    have HB3 := Aside0.mk (below_step HB.out (below_step (by repeat (first | (with_reducible first | exact Below.refl _ _ | apply pw_below_drewN | apply below_drew1 | apply below_alloc) | exact Below.refl _ _)) hb3))
    have HV := Aside0.mk hv3
    clear HB hb3 hv3
    have hM2 := u64_rng (M + 1)
    have HM2 := Aside0.mk hM2
    have hi0 : (0 : Int) ≤ (i : Int) := by omega
    have hi1 : (i : Int) ≤ (l.length : Int) := by have := HI.out; omega
    clear hM2
    go_wp2_with fail
    refine (parseFloat64_any _ p 0 (by first | exact HM2.out.1 | omega) (by first | exact HM2.out.2 | omega) HP.out.1 HP.out.2 _ ((HN.out.below HB3.out).f)).mono ?_
    rintro e_ w4 ⟨⟨x4, v4, rfl, hv4⟩, hb4⟩
    have HB4 := Aside0.mk (below_step HB3.out hb4)
    clear HB3 hb4 hv4
    go_wp2_with fail
    · refine bodyPost_ret (results_list (rs := [.tmp 2, .tmp 3, .tmp 4]) rfl (by simp) (.tmp (.tmp (.tmp .nil)))) rfl ?_
      exact ⟨⟨_, _, _, rfl, HV.out⟩, HB4.out⟩
    have hx0 : (bs l).extract 0 i = bs (l.take i) := by rw [Go.Lib.Pa.extract_upto]; unfold bs; simp
    rw [hx0]
    refine (set_any (l.take i) (HT.out.take i) _ w _ (setW_new HB4.out)).mono ?_
    rintro e_ w5 ⟨⟨b, rfl⟩, hS⟩
    obtain ⟨es, m, dp, tr', hD, hG, hd1, hd2⟩ := hS
    have HD := Aside0.mk hD
    have HG := Aside0.mk (And.intro hG (And.intro hd1 hd2))
    clear hD hG hd1 hd2 hx0
    cases b
    · go_wp2_with fail
      refine bodyPost_ret (results_list (rs := [.tmp 2, .tmp 3, .tmp 4]) rfl (by simp) (.tmp (.tmp (.tmp .nil)))) rfl ?_
      exact ⟨⟨_, _, _, rfl, Or.inr (Or.inr rfl)⟩, HD.out.bel⟩
    · go_wp2_with fail
      refine (floatBits_any _ es m dp false tr' (by have := HG.out.2; omega) (by have := HG.out.2; omega) w _ HD.out HG.out.1 HN.out.c HN.out.q).mono ?_
      rintro e_ w6 ⟨⟨N, b2, rfl⟩, hb6⟩
      have HB6 := Aside0.mk hb6
      clear hb6
      cases b2
      all_goals
        go_wp2_with fail
        refine bodyPost_ret (results_list (rs := [.tmp 2, .tmp 3, .tmp 4]) rfl (by simp) (.tmp (.tmp (.tmp .nil)))) rfl ?_
        exact ⟨⟨_, _, _, rfl, by first | exact Or.inl rfl | exact Or.inr (Or.inl rfl)⟩, HB6.out⟩
end Go.Proofs.YtjleceekccehoaaGreatDoor.Pr
