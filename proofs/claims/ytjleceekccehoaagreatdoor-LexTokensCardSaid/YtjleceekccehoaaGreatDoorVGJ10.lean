/- Texts of this session, cut down to what one claim needs and joined: FfReadO, FfRead, FfSetN, FfSetZ. -/
import Derived.Test.YtjleceekccehoaaGreatDoorVGJ7
import Derived.Test.YtjleceekccehoaaGreatDoorVGJ8
import Derived.Test.YtjleceekccehoaaGreatDoorVGJ9
section
set_option linter.unusedVariables false
set_option linter.unusedSimpArgs false
namespace Go.Proofs.YtjleceekccehoaaGreatDoor.Pr
open Go.RowKit Go.Proofs.YtjleceekccehoaaGreatDoorW.PrintWords Go.Proofs.YtjleceekccehoaaGreatDoorW.PrintLast Go.Proofs.YtjleceekccehoaaGreatDoorW.PrintMore

set_option maxHeartbeats 8000000 in
set_option maxRecDepth 100000 in
theorem readFloat_O (l : List UInt8) (hT : NumT l) (p : Nat) (hE : EAt l p) (hpL : p + 1 < l.length) (z2 : Nat) (n43 : z2 ≠ 43) (n45 : z2 ≠ 45) (hz2 : ∀ h : p + 1 < (bs l).size, ((bs l)[p + 1]'h).toNat = z2)  (hn : l ≠ []) (w : World) :
  Calls Tryz.prog 153 #[.string (bs l)] w fun e w' => RdE l.length e ∧ Below w.heap.size w w' := by
 have hsz := bs_size l
 have hlen := hT.len
 obtain ⟨L, hL⟩ : ∃ L, l.length = L := ⟨_, rfl⟩
 have hL0 : 0 < L := by rw [← hL]; exact List.length_pos_iff.2 hn
 rw [hL] at hsz hlen hpL ⊢
 have HE := Aside0.mk hE
 have HZ2 := Aside0.mk hz2
 clear hz2
 clear hE
 have HT := Aside0.mk hT
 have HL0 := Aside0.mk hL
 clear hT hL hn
 obtain ⟨z, hz, -, hz0⟩ := num_at HT.out HL0.out 0 (by omega)
 have hz1 := hz0 rfl
 have t1 : decide (L = 0) = false := by simp; omega
 have t2 : (0 : Int) < (L : Int) := by omega
 have t3 : ((z : Int) == 43) = false := by rw [beq_eq_false_iff_ne]; omega
 have t4 : ((z : Int) == 45) = false := by rw [beq_eq_false_iff_ne]; omega
 have HLP := Aside0.mk hL0
 clear hz0 hz1 hL0
 go_enter Tryz.func153, Tryz.ntmps153
 go_wp2_with fail
 go_step3
 go_upto_region 12 with fail
 go_cut [54] from 36 to 54 (fun v54 wc => v54 = .bool false ∧ Aside0 (Below w.heap.size w wc))
 case first =>
  by_cases h2 : 2 < L
  ·obtain ⟨z1, hz1, hz1c, -⟩ := num_at HT.out HL0.out 1 (by omega)
   obtain ⟨r, hr, hr0⟩ := low_ex z1 hz1c
   have t5 : (1 : Int) < (L : Int) := by omega
   have t6 : (2 : Int) < (L : Int) := by omega
   have HR := Aside0.mk hr
   clear hz1c hr
   by_cases h48 : z = 48
   ·have t7 : ((z : Int) == 48) = true := by rw [beq_iff_eq]; omega
    clear h48
    go_wp2_with (first | (go_at_call 129; refine (lower_any _ _ HR.out _).mono ?_; rintro e_ w' ⟨rfl, ⟨n1, rfl⟩⟩))
    go_meet
    case rel => exact ⟨rfl, ⟨(by repeat (first | (with_reducible exact Below.refl _ _) | apply pw_below_drewN | apply below_drew1 | exact Below.refl _ _))⟩⟩
   ·have t7 : ((z : Int) == 48) = false := by rw [beq_eq_false_iff_ne]; omega
    clear h48
    go_wp2_with fail
    go_meet
    case rel => exact ⟨rfl, ⟨(by repeat (first | (with_reducible exact Below.refl _ _) | apply pw_below_drewN | apply below_drew1 | exact Below.refl _ _))⟩⟩
  ·have t6 : ((2 : Int) < (L : Int)) = False := eq_false (by omega)
   go_wp2_with fail
   go_meet
   case rel => exact ⟨rfl, ⟨(by repeat (first | (with_reducible exact Below.refl _ _) | apply pw_below_drewN | apply below_drew1 | exact Below.refl _ _))⟩⟩
 case rest =>
  obtain ⟨rfl, HW⟩ := hcut
  clear hz t3 t4
  go_wp2_with fail
  try go_step3
  go_wp2_with fail
  go_loopg [2, 5, 7, 9, 13, 14, 15, 16, 17] L (fun q v2 v5 v7 v9 v13 v14 v15 v16 v17 wr => ∃ (i m nm : Nat) (M dp : Int) (tr sd sg : Bool), v2 = .int .u64 M ∧ v5 = .bool tr ∧ v7 = .int .i64 (i : Int) ∧ v9 = .bool false ∧ v13 = .bool sd ∧ v14 = .bool sg ∧ v15 = .int .i64 (m : Int) ∧ v16 = .int .i64 (nm : Int) ∧ v17 = .int .i64 dp ∧ i + q = L ∧ i ≤ p ∧ m ≤ i ∧ nm ≤ 19 ∧ -(i : Int) ≤ dp ∧ dp ≤ i ∧ Aside0 (0 ≤ M ∧ M ≤ 18446744073709551615) ∧ Aside0 (Below w.heap.size w wr))
  case atStart => exact ⟨0, 0, 0, 0, 0, false, false, false, rfl, rfl, rfl, rfl, rfl, rfl, rfl, rfl, rfl, by omega, by omega, by omega, by omega, by omega, by omega, ⟨by omega, by omega⟩, ⟨by have := HW.out; first | exact this | exact below_step this (by repeat (first | (with_reducible exact Below.refl _ _) | apply pw_below_drewN | apply below_drew1 | exact Below.refl _ _))⟩⟩
  case round =>
   clear HW t1
   obtain ⟨i, m, nm, M, dp, tr, sd, sg, h2, h5, h7, h9, h13, h14, h15, h16, h17, hq, hipL, hm, hnm, hd1, hd2, HM, HW⟩ := hrel
   have HQ := Aside0.mk hq
   have hil : i ≤ L := by omega
   clear hq
   subst h2 h5 h7 h9 h13 h14 h15 h16 h17
   by_cases hi : i < L
   ·obtain ⟨z, hz, hzc, hzp⟩ := num_eat HT.out HL0.out HE.out i hi hipL
    have HIP := Aside0.mk (And.intro hzp hipL)
    have t2 : (0 : Int) ≤ (i : Int) := by omega
    have t3 : (i : Int) < (L : Int) := by omega
    have t5 : ((z : Int) == 95) = false := by rw [beq_eq_false_iff_ne]; omega
    clear hi hzp
    rcases hzc with hzd | hzc
    ·have t6 : ((z : Int) == 46) = false := by rw [beq_eq_false_iff_ne]; omega
     have t7 : (48 : Int) ≤ (z : Int) := by omega
     have t8 : (z : Int) ≤ 57 := by omega
     clear hzd
     by_cases h48 : z = 48
     ·subst h48
      clear t6 t7 t8
      by_cases hm0 : m = 0
      ·subst hm0
       go_wp2_with fail
       go_roundg (L - (i + 1))
       case measure => have := HQ.out; omega
       case rel => exact ⟨i + 1, 0, nm, M, dp - 1, tr, sd, true, rfl, rfl, by go_num, rfl, rfl, rfl, rfl, rfl, by go_num, by omega, by have := HIP.out; omega, by omega, by omega, by omega, by omega, HM, ⟨below_step HW.out (by repeat (first | (with_reducible exact Below.refl _ _) | apply pw_below_drewN | apply below_drew1 | exact Below.refl _ _))⟩⟩
      ·have t9 : ((m : Int) == 0) = false := by rw [beq_eq_false_iff_ne]; omega
       by_cases h19 : nm < 19
       ·have u1 : (nm : Int) < 19 := by omega
        go_wp2_with fail
        go_roundg (L - (i + 1))
        case measure => have := HQ.out; omega
        case rel => exact ⟨i + 1, m + 1, nm + 1, _, dp, tr, sd, true, rfl, rfl, by go_num, rfl, rfl, rfl, by go_num, by go_num, rfl, by omega, by have := HIP.out; omega, by omega, by omega, by omega, by omega, ⟨u64_rng _⟩, ⟨below_step HW.out (by repeat (first | (with_reducible exact Below.refl _ _) | apply pw_below_drewN | apply below_drew1 | exact Below.refl _ _))⟩⟩
       ·have u1 : ((nm : Int) < 19) = False := eq_false (by omega)
        go_wp2_with fail
        go_roundg (L - (i + 1))
        case measure => have := HQ.out; omega
        case rel => exact ⟨i + 1, m + 1, nm, M, dp, tr, sd, true, rfl, rfl, by go_num, rfl, rfl, rfl, by go_num, rfl, rfl, by omega, by have := HIP.out; omega, by omega, by omega, by omega, by omega, HM, ⟨below_step HW.out (by repeat (first | (with_reducible exact Below.refl _ _) | apply pw_below_drewN | apply below_drew1 | exact Below.refl _ _))⟩⟩
     ·have t10 : ((z : Int) == 48) = false := by rw [beq_eq_false_iff_ne]; omega
      clear h48
      by_cases h19 : nm < 19
      ·have u1 : (nm : Int) < 19 := by omega
       go_wp2_with fail
       go_roundg (L - (i + 1))
       case measure => have := HQ.out; omega
       case rel => exact ⟨i + 1, m + 1, nm + 1, _, dp, tr, sd, true, rfl, rfl, by go_num, rfl, rfl, rfl, by go_num, by go_num, rfl, by omega, by have := HIP.out; omega, by omega, by omega, by omega, by omega, ⟨u64_rng _⟩, ⟨below_step HW.out (by repeat (first | (with_reducible exact Below.refl _ _) | apply pw_below_drewN | apply below_drew1 | exact Below.refl _ _))⟩⟩
      ·have u1 : ((nm : Int) < 19) = False := eq_false (by omega)
       go_wp2_with fail
       go_roundg (L - (i + 1))
       case measure => have := HQ.out; omega
       case rel => exact ⟨i + 1, m + 1, nm, M, dp, true, sd, true, rfl, rfl, by go_num, rfl, rfl, rfl, by go_num, rfl, rfl, by omega, by have := HIP.out; omega, by omega, by omega, by omega, by omega, HM, ⟨below_step HW.out (by repeat (first | (with_reducible exact Below.refl _ _) | apply pw_below_drewN | apply below_drew1 | exact Below.refl _ _))⟩⟩
    rcases hzc with hz46 | hzc
    ·subst hz46
     clear t5
     cases sd
     ·go_wp2_with fail
      go_roundg (L - (i + 1))
      case measure => have := HQ.out; omega
      case rel => exact ⟨i + 1, m, nm, M, m, tr, true, sg, rfl, rfl, by go_num, rfl, rfl, rfl, rfl, rfl, rfl, by omega, by have := HIP.out; omega, by omega, by omega, by omega, by omega, HM, ⟨below_step HW.out (by repeat (first | (with_reducible exact Below.refl _ _) | apply pw_below_drewN | apply below_drew1 | exact Below.refl _ _))⟩⟩
     ·have hl := low120
      cases sg
      ·go_wp2_with fail
       all_goals
        (try simp only [Exit.noGoto])
        refine bodyPost_ret (results_list (rs := [.tmp 2, .tmp 3, .tmp 4, .tmp 5, .tmp 6, .tmp 7, .tmp 8]) rfl (by simp) (.tmp (.tmp (.tmp (.tmp (.tmp (.tmp (.tmp .nil)))))))) rfl ?_
        exact ⟨⟨_, _, _, _, i, rfl, HM.out.1, HM.out.2, by omega⟩, below_step HW.out (by repeat (first | (with_reducible exact Below.refl _ _) | apply pw_below_drewN | apply below_drew1 | exact Below.refl _ _))⟩
      ·go_wp2_with (first | (go_at_call 129; refine (lower_any _ _ hl _).mono ?_; rintro e_ w' ⟨rfl, ⟨n1, rfl⟩⟩))
       all_goals
        (try simp only [Exit.noGoto])
        refine bodyPost_ret (results_list (rs := [.tmp 2, .tmp 3, .tmp 4, .tmp 5, .tmp 6, .tmp 7, .tmp 8]) rfl (by simp) (.tmp (.tmp (.tmp (.tmp (.tmp (.tmp (.tmp .nil)))))))) rfl ?_
        exact ⟨⟨_, _, _, _, i, rfl, HM.out.1, HM.out.2, by omega⟩, below_step HW.out (by repeat (first | (with_reducible exact Below.refl _ _) | apply pw_below_drewN | apply below_drew1 | exact Below.refl _ _))⟩
    have t6 : ((z : Int) == 46) = false := by rw [beq_eq_false_iff_ne]; omega
    cases sg
    ·by_cases h48 : z < 48
     ·have t7 : ((48 : Int) ≤ (z : Int)) = False := eq_false (by omega)
      clear hzc
      go_wp2_with fail
      all_goals
       (try simp only [Exit.noGoto])
       refine bodyPost_ret (results_list (rs := [.tmp 2, .tmp 3, .tmp 4, .tmp 5, .tmp 6, .tmp 7, .tmp 8]) rfl (by simp) (.tmp (.tmp (.tmp (.tmp (.tmp (.tmp (.tmp .nil)))))))) rfl ?_
       exact ⟨⟨_, _, _, _, i, rfl, HM.out.1, HM.out.2, by omega⟩, below_step HW.out (by repeat (first | (with_reducible exact Below.refl _ _) | apply pw_below_drewN | apply below_drew1 | exact Below.refl _ _))⟩
     ·have t7 : (48 : Int) ≤ (z : Int) := by omega
      have t8 : ((z : Int) ≤ 57) = False := eq_false (by omega)
      clear hzc
      go_wp2_with fail
      all_goals
       (try simp only [Exit.noGoto])
       refine bodyPost_ret (results_list (rs := [.tmp 2, .tmp 3, .tmp 4, .tmp 5, .tmp 6, .tmp 7, .tmp 8]) rfl (by simp) (.tmp (.tmp (.tmp (.tmp (.tmp (.tmp (.tmp .nil)))))))) rfl ?_
       exact ⟨⟨_, _, _, _, i, rfl, HM.out.1, HM.out.2, by omega⟩, below_step HW.out (by repeat (first | (with_reducible exact Below.refl _ _) | apply pw_below_drewN | apply below_drew1 | exact Below.refl _ _))⟩
    by_cases hze : z = 101 ∨ z = 69
    ·have hip : i = p := HIP.out.1.1 hze
     have hl := low_e2 z hze
     have t7 : (48 : Int) ≤ (z : Int) := by omega
     have t8 : ((z : Int) ≤ 57) = False := eq_false (by omega)
     clear hzc hze
     cases sd
     all_goals
      obtain ⟨I, hI⟩ : ∃ I, I = i + 1 := ⟨_, rfl⟩
      have iI : (i : Int) + 1 = (I : Int) := by omega
      have IL : I ≤ L := by omega
      have hIL : I < L := by omega
      have x3 : (I : Int) < (L : Int) := by omega
      have x4 : (0 : Int) ≤ (I : Int) := by omega
      have x5 : ((I : Int) ≥ (L : Int)) = False := eq_false (by omega)
      have x1 : ∀ h : I < (bs l).size, ((bs l)[I]'h).toNat = z2 := by rw [hI, hip]; exact HZ2.out
      have x6 : ((z2 : Int) == 43) = false := by rw [beq_eq_false_iff_ne]; omega
      have x7 : ((z2 : Int) == 45) = false := by rw [beq_eq_false_iff_ne]; omega
      clear hIL hI hip
      by_cases hd3 : 48 ≤ z2 ∧ z2 ≤ 57
      ·have w6 : ((z2 : Int) < 48) = False := eq_false (by omega)
       have w7 : ((z2 : Int) > 57) = False := eq_false (by omega)
       clear hd3
       go_wp2_with (first | (go_at_call 129; refine (lower_any _ _ hl _).mono ?_; rintro e_ w' ⟨rfl, ⟨n1, rfl⟩⟩))
       go_loopg [7, 9, 20] (L - I) (fun q v7 v9 v20 wq => ∃ (j : Nat) (e : Int), v7 = .int .i64 (j : Int) ∧ v9 = .bool false ∧ v20 = .int .i64 e ∧ q = L - j ∧ j ≤ L ∧ 0 ≤ e ∧ e ≤ 200000 ∧ Aside0 (Below w.heap.size w wq))
       case atStart => exact ⟨I, 0, rfl, rfl, rfl, rfl, by omega, by omega, by omega, ⟨below_step HW.out (by repeat (first | (with_reducible exact Below.refl _ _) | apply pw_below_drewN | apply below_drew1 | exact Below.refl _ _))⟩⟩
       case round =>
        clear HW
        obtain ⟨j, e, h7, h9, h20, hq, hj, he0, he1, HW⟩ := hrel
        have HQ := Aside0.mk hq
        clear hq
        subst h7 h9 h20
        by_cases hjl : j < L
        ·obtain ⟨z9, y1, y2, -⟩ := num_at HT.out HL0.out j hjl
         have y3 : (j : Int) < (L : Int) := by omega
         have y4 : (0 : Int) ≤ (j : Int) := by omega
         have y5 : ((z9 : Int) == 95) = false := by rw [beq_eq_false_iff_ne]; omega
         rcases y2 with y2 | y2
         ·have y6 : (48 : Int) ≤ (z9 : Int) := by omega
          have y7 : (z9 : Int) ≤ 57 := by omega
          clear y2
          by_cases he : e < 10000
          ·go_wp2_with fail
           go_roundg (L - (j + 1))
           case measure => have := HQ.out; omega
           case rel => exact ⟨j + 1, _, by go_num, rfl, rfl, rfl, by omega, by omega, by omega, ⟨below_step HW.out (by repeat (first | (with_reducible exact Below.refl _ _) | apply pw_below_drewN | apply below_drew1 | exact Below.refl _ _))⟩⟩
          ·have y8 : (e < 10000) = False := eq_false he
           go_wp2_with fail
           go_roundg (L - (j + 1))
           case measure => have := HQ.out; omega
           case rel => exact ⟨j + 1, _, by go_num, rfl, rfl, rfl, by omega, by omega, by omega, ⟨below_step HW.out (by repeat (first | (with_reducible exact Below.refl _ _) | apply pw_below_drewN | apply below_drew1 | exact Below.refl _ _))⟩⟩
         ·by_cases y6 : z9 < 48
          ·have y7 : ((48 : Int) ≤ (z9 : Int)) = False := eq_false (by omega)
           clear y2
           go_wp2_with fail
           all_goals
            (try simp only [Exit.noGoto])
            refine bodyPost_ret (results_list (rs := [.tmp 2, .tmp 3, .tmp 4, .tmp 5, .tmp 6, .tmp 7, .tmp 8]) rfl (by simp) (.tmp (.tmp (.tmp (.tmp (.tmp (.tmp (.tmp .nil)))))))) rfl ?_
            exact ⟨⟨_, _, _, _, j, rfl, HM.out.1, HM.out.2, by omega⟩, below_step HW.out (by repeat (first | (with_reducible exact Below.refl _ _) | apply pw_below_drewN | apply below_drew1 | exact Below.refl _ _))⟩
          ·have y7 : (48 : Int) ≤ (z9 : Int) := by omega
           have y8 : ((z9 : Int) ≤ 57) = False := eq_false (by omega)
           clear y2
           go_wp2_with fail
           all_goals
            (try simp only [Exit.noGoto])
            refine bodyPost_ret (results_list (rs := [.tmp 2, .tmp 3, .tmp 4, .tmp 5, .tmp 6, .tmp 7, .tmp 8]) rfl (by simp) (.tmp (.tmp (.tmp (.tmp (.tmp (.tmp (.tmp .nil)))))))) rfl ?_
            exact ⟨⟨_, _, _, _, j, rfl, HM.out.1, HM.out.2, by omega⟩, below_step HW.out (by repeat (first | (with_reducible exact Below.refl _ _) | apply pw_below_drewN | apply below_drew1 | exact Below.refl _ _))⟩
        ·have y3 : ((j : Int) < (L : Int)) = False := eq_false (by omega)
         go_wp2_with fail
         all_goals
          (try simp only [Exit.noGoto])
          refine bodyPost_ret (results_list (rs := [.tmp 2, .tmp 3, .tmp 4, .tmp 5, .tmp 6, .tmp 7, .tmp 8]) rfl (by simp) (.tmp (.tmp (.tmp (.tmp (.tmp (.tmp (.tmp .nil)))))))) rfl ?_
          exact ⟨⟨_, _, _, _, j, rfl, HM.out.1, HM.out.2, by omega⟩, below_step HW.out (by repeat (first | (with_reducible exact Below.refl _ _) | apply pw_below_drewN | apply below_drew1 | exact Below.refl _ _))⟩
      ·by_cases hlo : z2 < 48
       ·have w6 : (z2 : Int) < 48 := by omega
        clear hd3
        go_wp2_with (first | (go_at_call 129; refine (lower_any _ _ hl _).mono ?_; rintro e_ w' ⟨rfl, ⟨n1, rfl⟩⟩))
        all_goals
         (try simp only [Exit.noGoto])
         refine bodyPost_ret (results_list (rs := [.tmp 2, .tmp 3, .tmp 4, .tmp 5, .tmp 6, .tmp 7, .tmp 8]) rfl (by simp) (.tmp (.tmp (.tmp (.tmp (.tmp (.tmp (.tmp .nil)))))))) rfl ?_
         exact ⟨⟨_, _, _, _, I, rfl, HM.out.1, HM.out.2, by omega⟩, below_step HW.out (by repeat (first | (with_reducible exact Below.refl _ _) | apply pw_below_drewN | apply below_drew1 | exact Below.refl _ _))⟩
       ·have w6 : ((z2 : Int) < 48) = False := eq_false (by omega)
        have w7 : (z2 : Int) > 57 := by omega
        clear hd3
        go_wp2_with (first | (go_at_call 129; refine (lower_any _ _ hl _).mono ?_; rintro e_ w' ⟨rfl, ⟨n1, rfl⟩⟩))
        all_goals
         (try simp only [Exit.noGoto])
         refine bodyPost_ret (results_list (rs := [.tmp 2, .tmp 3, .tmp 4, .tmp 5, .tmp 6, .tmp 7, .tmp 8]) rfl (by simp) (.tmp (.tmp (.tmp (.tmp (.tmp (.tmp (.tmp .nil)))))))) rfl ?_
         exact ⟨⟨_, _, _, _, I, rfl, HM.out.1, HM.out.2, by omega⟩, below_step HW.out (by repeat (first | (with_reducible exact Below.refl _ _) | apply pw_below_drewN | apply below_drew1 | exact Below.refl _ _))⟩
    ·have hz9 : z = 43 ∨ z = 45 := by omega
     clear hzc hze
     cases sd
     all_goals
      rcases hz9 with rfl | rfl
      ·have hl := low43
       clear t5 t6
       go_wp2_with (first | (go_at_call 129; refine (lower_any _ _ hl _).mono ?_; rintro e_ w' ⟨rfl, ⟨n1, rfl⟩⟩))
       all_goals
        (try simp only [Exit.noGoto])
        refine bodyPost_ret (results_list (rs := [.tmp 2, .tmp 3, .tmp 4, .tmp 5, .tmp 6, .tmp 7, .tmp 8]) rfl (by simp) (.tmp (.tmp (.tmp (.tmp (.tmp (.tmp (.tmp .nil)))))))) rfl ?_
        exact ⟨⟨_, _, _, _, i, rfl, HM.out.1, HM.out.2, by omega⟩, below_step HW.out (by repeat (first | (with_reducible exact Below.refl _ _) | apply pw_below_drewN | apply below_drew1 | exact Below.refl _ _))⟩
      ·have hl := low45
       clear t5 t6
       go_wp2_with (first | (go_at_call 129; refine (lower_any _ _ hl _).mono ?_; rintro e_ w' ⟨rfl, ⟨n1, rfl⟩⟩))
       all_goals
        (try simp only [Exit.noGoto])
        refine bodyPost_ret (results_list (rs := [.tmp 2, .tmp 3, .tmp 4, .tmp 5, .tmp 6, .tmp 7, .tmp 8]) rfl (by simp) (.tmp (.tmp (.tmp (.tmp (.tmp (.tmp (.tmp .nil)))))))) rfl ?_
        exact ⟨⟨_, _, _, _, i, rfl, HM.out.1, HM.out.2, by omega⟩, below_step HW.out (by repeat (first | (with_reducible exact Below.refl _ _) | apply pw_below_drewN | apply below_drew1 | exact Below.refl _ _))⟩
   ·have t3 : ((i : Int) < (L : Int)) = False := eq_false (by omega)
    exfalso; omega
end Go.Proofs.YtjleceekccehoaaGreatDoor.Pr
end

section
set_option linter.unusedVariables false
set_option linter.unusedSimpArgs false
namespace Go.Proofs.YtjleceekccehoaaGreatDoor.Pr
open Go.RowKit Go.Proofs.YtjleceekccehoaaGreatDoorW.PrintWords Go.Proofs.YtjleceekccehoaaGreatDoorW.PrintLast Go.Proofs.YtjleceekccehoaaGreatDoorW.PrintMore

theorem readFloat_any (l : List UInt8) (hT : NumT l) (hn : l ≠ []) (w : World) :
  Calls Tryz.prog 153 #[.string (bs l)] w fun e w' => RdE l.length e ∧ Below w.heap.size w w' := by
 obtain ⟨p, hE⟩ := eat_at l
 have hle := hE.le
 by_cases h1 : p = l.length
 ·exact readFloat_N l hT p hE h1 hn w
 by_cases h2 : p + 1 = l.length
 ·exact readFloat_Z l hT p hE h2 hn w
 obtain ⟨z2, hz2, -, -⟩ := at_byte l (p + 1) (by omega)
 by_cases h3 : z2 = 43
 ·subst h3; exact readFloat_P l hT p hE (by omega) hz2 hn w
 by_cases h4 : z2 = 45
 ·subst h4; exact readFloat_M l hT p hE (by omega) hz2 hn w
 exact readFloat_O l hT p hE (by omega) z2 h3 h4 hz2 hn w
end Go.Proofs.YtjleceekccehoaaGreatDoor.Pr
end

section
set_option linter.unusedVariables false
set_option linter.unusedSimpArgs false
namespace Go.Proofs.YtjleceekccehoaaGreatDoor.Pr
open Go.RowKit Go.Proofs.YtjleceekccehoaaGreatDoor.Dec Go.Proofs.YtjleceekccehoaaGreatDoorW.PrintWords Go.Proofs.YtjleceekccehoaaGreatDoorW.PrintLast Go.Proofs.YtjleceekccehoaaGreatDoorW.PrintMore

set_option maxHeartbeats 8000000 in
set_option maxRecDepth 100000 in
theorem set_N (l : List UInt8) (hT : NumT l) (p : Nat) (hE : EAt l p) (hpL : p = l.length)  (g : Nat) (w0 w : World) (h : SetW w0 w g 0) :
  Calls Tryz.prog 159 #[.pointer (some ⟨g, 0, none⟩), .string (bs l)] w fun e w' => IsB e ∧ SetE w0 w' g := by
 have hsz := bs_size l
 have hlen := hT.len
 obtain ⟨L, hL⟩ : ∃ L, l.length = L := ⟨_, rfl⟩
 rw [hL] at hsz hlen hpL
 have HE := Aside0.mk hE
 clear hE
 have HL0 := Aside0.mk hL
 have HT := Aside0.mk hT
 have HS := Aside0.mk h
 obtain ⟨es, m, dp, tr, hB, hG, hm, hd1, hd2⟩ := h
 have HB := Aside0.mk hB
 have HD := Aside0.mk (And.intro hG (And.intro hm (And.intro hd1 hd2)))
 have f1 := hB.froz 802
 have f2 := hB.froz 803
 have c1 := hB.ng_
 have c2 := hB.tr_
 clear hT hB hG hm hd1 hd2 hL
 by_cases h0 : L = 0
 ·have t1 : ((0 : Int) ≥ (L : Int)) := by omega
  go_enter Tryz.func159, Tryz.ntmps159
  go_wp2_with fail
  go_ret
  exact ⟨⟨_, rfl⟩, ⟨es, m, dp, false, (HB.out.setNg false).setTr false, HD.out.1, by have := HD.out.2; omega, by have := HD.out.2; omega⟩⟩
 ·obtain ⟨z, hz, -, hz0⟩ := num_at HT.out HL0.out 0 (by omega)
  have hz1 := hz0 rfl
  have t1 : decide (L = 0) = false := by simp; omega
  have t2 : (0 : Int) < (L : Int) := by omega
  have t3 : ((z : Int) == 43) = false := by rw [beq_eq_false_iff_ne]; omega
  have t4 : ((z : Int) == 45) = false := by rw [beq_eq_false_iff_ne]; omega
  have T2 := Aside0.mk t2
  clear h0 hz0 hz1
  go_enter Tryz.func159, Tryz.ntmps159
  go_wp2_with fail
  go_loopg [5, 6, 7] L (fun q v5 v6 v7 wr => ∃ (i : Nat) (sd sg : Bool), v5 = .int .i64 (i : Int) ∧ v6 = .bool sd ∧ v7 = .bool sg ∧ i + q = L ∧ i ≤ p ∧ Aside0 (SetW w0 wr g i))
  case atStart => exact ⟨0, false, false, rfl, rfl, rfl, by omega, by omega, ⟨es, m, dp, false, (HB.out.setNg false).setTr false, HD.out.1, HD.out.2⟩⟩
  case round =>
   clear HS HB HD f1 f2 c1 c2 hz t1 t2 t3 t4
   obtain ⟨i, sd, sg, h5, h6, h7, hq, hipL, HS⟩ := hrel
   have HQ := Aside0.mk hq
   have hil : i ≤ L := by omega
   clear hq
   subst h5 h6 h7
   by_cases hi : i < L
   ·obtain ⟨z, hz, hzc, hzp⟩ := num_eat HT.out HL0.out HE.out i hi hipL
    have HIP := Aside0.mk (And.intro hzp hipL)
    have t2 : (0 : Int) ≤ (i : Int) := by omega
    have t3 : (i : Int) < (L : Int) := by omega
    have t5 : ((z : Int) == 95) = false := by rw [beq_eq_false_iff_ne]; omega
    clear hi hzp
    rcases hzc with hzd | hzc
    ·have t6 : ((z : Int) == 46) = false := by rw [beq_eq_false_iff_ne]; omega
     have t7 : (48 : Int) ≤ (z : Int) := by omega
     have t8 : (z : Int) ≤ 57 := by omega
     obtain ⟨es, m, dp, tr, hB, hG, hm, hd1, hd2⟩ := HS.out
     have HB := Aside0.mk hB
     have HD := Aside0.mk (And.intro hG (And.intro hm (And.intro hd1 hd2)))
     have cn := hB.nd_
     have cd := hB.dp_
     have f0 := hB.froz 800
     have f1 := hB.froz 801
     clear hB hG hzd
     by_cases hl0 : z = 48 ∧ m = 0
     ·obtain ⟨rfl, rfl⟩ := hl0
      clear t6 t7 t8
      go_wp2_with fail
      go_roundg (L - (i + 1))
      case measure => have := HQ.out; omega
      case rel => exact ⟨i + 1, sd, true, by go_num, rfl, rfl, by omega, by have := HIP.out; omega, ⟨es, 0, dp - 1, tr, HB.out.setDp _, HD.out.1, by omega, by have := HD.out.2; omega, by have := HD.out.2; omega⟩⟩
     ·have t9 : ((z : Int) == 48 && (m : Int) == 0) = false := by
       rw [Bool.and_eq_false_iff]
       by_cases h48 : z = 48
       ·right; rw [beq_eq_false_iff_ne]; omega
       ·left; rw [beq_eq_false_iff_ne]; omega
      have HL := Aside0.mk hl0
      have m8 : (m : Int) < 800 := by omega
      have m0 : (0 : Int) ≤ (m : Int) := by omega
      have fm := HB.out.froz m
      obtain ⟨y, hy⟩ : ∃ y, es[m]? = some y := ⟨es[m]'(by have := HB.out.len; omega), List.getElem?_eq_getElem (by have := HB.out.len; omega)⟩
      have cm := HB.out.dig m y hy
      clear hl0 hy t9
      by_cases h48 : z = 48
      ·subst h48
       have t10 : ((m : Int) == 0) = false := by rw [beq_eq_false_iff_ne]; have := HL.out; omega
       clear t6 t7 t8
       go_wp2_with fail
       go_region
       go_wp2_with fail
       go_roundg (L - (i + 1))
       case measure => have := HQ.out; omega
       case rel => exact ⟨i + 1, sd, true, by go_num, rfl, rfl, by omega, by have := HIP.out; omega, ⟨_, m + 1, dp, tr, (by have hh := (HB.out.setDig m (by omega) 48).setNd ((m : Int) + 1); exact DecB.below (by simpa using hh) (by repeat (first | (with_reducible exact Below.refl _ _) | apply pw_below_drewN | apply below_drew1 | exact Below.refl _ _))), good_put HD.out.1 (by omega) 48 (by omega) (fun h _ => by have := HL.out; simp at this; omega), by omega, by have := HD.out.2; omega, by have := HD.out.2; omega⟩⟩
      ·have t10 : ((z : Int) == 48) = false := by rw [beq_eq_false_iff_ne]; omega
       clear h48
       go_wp2_with fail
       go_region
       go_wp2_with fail
       go_roundg (L - (i + 1))
       case measure => have := HQ.out; omega
       case rel => exact ⟨i + 1, sd, true, by go_num, rfl, rfl, by omega, by have := HIP.out; omega, ⟨_, m + 1, dp, tr, (by have hh := (HB.out.setDig m (by omega) z).setNd ((m : Int) + 1); exact DecB.below (by simpa using hh) (by repeat (first | (with_reducible exact Below.refl _ _) | apply pw_below_drewN | apply below_drew1 | exact Below.refl _ _))), good_put HD.out.1 (by omega) z (by omega) (fun h he => by have := beq_eq_false_iff_ne.1 t10; omega), by omega, by have := HD.out.2; omega, by have := HD.out.2; omega⟩⟩
    rcases hzc with hz46 | hzc
    ·subst hz46
     obtain ⟨es, m, dp, tr, hB, hG, hm, hd1, hd2⟩ := HS.out
     have HB := Aside0.mk hB
     have HD := Aside0.mk (And.intro hG (And.intro hm (And.intro hd1 hd2)))
     have cn := hB.nd_
     have cd := hB.dp_
     have f1 := hB.froz 801
     clear hB hG t5
     cases sd
     ·go_wp2_with fail
      go_roundg (L - (i + 1))
      case measure => have := HQ.out; omega
      case rel => exact ⟨i + 1, true, sg, by go_num, rfl, rfl, by omega, by have := HIP.out; omega, ⟨es, m, m, tr, HB.out.setDp _, HD.out.1, by omega, by have := HD.out.2; omega, by have := HD.out.2; omega⟩⟩
     ·go_wp2_with fail
      go_ret
      exact ⟨⟨_, rfl⟩, HS.out.e (by omega)⟩
    obtain ⟨es, m, dp, tr, hB, hG, hm, hd1, hd2⟩ := HS.out
    have HB := Aside0.mk hB
    have HD := Aside0.mk (And.intro hG (And.intro hm (And.intro hd1 hd2)))
    have cn := hB.nd_
    have cd := hB.dp_
    have f1 := hB.froz 801
    clear hB hG
    have t6 : ((z : Int) == 46) = false := by rw [beq_eq_false_iff_ne]; omega
    have t9 : ((i : Int) != (L : Int)) = true := by rw [bne_iff_ne]; omega
    have hz9 : z = 43 ∨ z = 45 := by have := HIP.out; omega
    clear hzc
    cases sg
    ·rcases hz9 with rfl | rfl
     all_goals
      clear t5 t6
      go_wp2_with fail
      go_ret
      exact ⟨⟨_, rfl⟩, HS.out.e (by omega)⟩
    cases sd
    ·rcases hz9 with rfl | rfl
     ·have hl := low43
      clear t5 t6
      go_wp2_with (first | (go_at_call 129; refine (lower_any _ _ hl _).mono ?_; rintro e_ w' ⟨rfl, ⟨n1, rfl⟩⟩))
      go_ret
      exact ⟨⟨_, rfl⟩, ⟨es, m, m, tr, (HB.out.setDp _).below (by repeat (first | (with_reducible exact Below.refl _ _) | apply pw_below_drewN | apply below_drew1 | exact Below.refl _ _)), HD.out.1, by omega, by omega⟩⟩
     ·have hl := low45
      clear t5 t6
      go_wp2_with (first | (go_at_call 129; refine (lower_any _ _ hl _).mono ?_; rintro e_ w' ⟨rfl, ⟨n1, rfl⟩⟩))
      go_ret
      exact ⟨⟨_, rfl⟩, ⟨es, m, m, tr, (HB.out.setDp _).below (by repeat (first | (with_reducible exact Below.refl _ _) | apply pw_below_drewN | apply below_drew1 | exact Below.refl _ _)), HD.out.1, by omega, by omega⟩⟩
    ·rcases hz9 with rfl | rfl
     ·have hl := low43
      clear t5 t6
      go_wp2_with (first | (go_at_call 129; refine (lower_any _ _ hl _).mono ?_; rintro e_ w' ⟨rfl, ⟨n1, rfl⟩⟩))
      go_ret
      exact ⟨⟨_, rfl⟩, (HS.out.e (by omega)).below (by repeat (first | (with_reducible exact Below.refl _ _) | apply pw_below_drewN | apply below_drew1 | exact Below.refl _ _))⟩
     ·have hl := low45
      clear t5 t6
      go_wp2_with (first | (go_at_call 129; refine (lower_any _ _ hl _).mono ?_; rintro e_ w' ⟨rfl, ⟨n1, rfl⟩⟩))
      go_ret
      exact ⟨⟨_, rfl⟩, (HS.out.e (by omega)).below (by repeat (first | (with_reducible exact Below.refl _ _) | apply pw_below_drewN | apply below_drew1 | exact Below.refl _ _))⟩
   ·have t3 : ((i : Int) < (L : Int)) = False := eq_false (by omega)
    obtain ⟨es, m, dp, tr, hB, hG, hm, hd1, hd2⟩ := HS.out
    have HB := Aside0.mk hB
    have HD := Aside0.mk (And.intro hG (And.intro hm (And.intro hd1 hd2)))
    have cn := hB.nd_
    have cd := hB.dp_
    have f1 := hB.froz 801
    clear hB hG

    have il : i = L := by omega
    have t4 : (((i : Int)) != (L : Int)) = false := by rw [il]; simp
    cases sg
    ·go_wp2_with fail
     go_ret
     exact ⟨⟨_, rfl⟩, HS.out.e (by omega)⟩
    cases sd
    ·go_wp2_with fail
     go_ret
     exact ⟨⟨_, rfl⟩, ⟨es, m, m, tr, HB.out.setDp _, HD.out.1, by omega, by omega⟩⟩
    ·go_wp2_with fail
     go_ret
     exact ⟨⟨_, rfl⟩, HS.out.e (by omega)⟩
end Go.Proofs.YtjleceekccehoaaGreatDoor.Pr
end

section
set_option linter.unusedVariables false
set_option linter.unusedSimpArgs false
namespace Go.Proofs.YtjleceekccehoaaGreatDoor.Pr
open Go.RowKit Go.Proofs.YtjleceekccehoaaGreatDoor.Dec Go.Proofs.YtjleceekccehoaaGreatDoorW.PrintWords Go.Proofs.YtjleceekccehoaaGreatDoorW.PrintLast Go.Proofs.YtjleceekccehoaaGreatDoorW.PrintMore

set_option maxHeartbeats 8000000 in
set_option maxRecDepth 100000 in
theorem set_Z (l : List UInt8) (hT : NumT l) (p : Nat) (hE : EAt l p) (hpL : p + 1 = l.length)  (g : Nat) (w0 w : World) (h : SetW w0 w g 0) :
  Calls Tryz.prog 159 #[.pointer (some ⟨g, 0, none⟩), .string (bs l)] w fun e w' => IsB e ∧ SetE w0 w' g := by
 have hsz := bs_size l
 have hlen := hT.len
 obtain ⟨L, hL⟩ : ∃ L, l.length = L := ⟨_, rfl⟩
 rw [hL] at hsz hlen hpL
 have HE := Aside0.mk hE
 clear hE
 have HL0 := Aside0.mk hL
 have HT := Aside0.mk hT
 have HS := Aside0.mk h
 obtain ⟨es, m, dp, tr, hB, hG, hm, hd1, hd2⟩ := h
 have HB := Aside0.mk hB
 have HD := Aside0.mk (And.intro hG (And.intro hm (And.intro hd1 hd2)))
 have f1 := hB.froz 802
 have f2 := hB.froz 803
 have c1 := hB.ng_
 have c2 := hB.tr_
 clear hT hB hG hm hd1 hd2 hL
 by_cases h0 : L = 0
 ·exfalso; omega
 ·obtain ⟨z, hz, -, hz0⟩ := num_at HT.out HL0.out 0 (by omega)
  have hz1 := hz0 rfl
  have t1 : decide (L = 0) = false := by simp; omega
  have t2 : (0 : Int) < (L : Int) := by omega
  have t3 : ((z : Int) == 43) = false := by rw [beq_eq_false_iff_ne]; omega
  have t4 : ((z : Int) == 45) = false := by rw [beq_eq_false_iff_ne]; omega
  have T2 := Aside0.mk t2
  clear h0 hz0 hz1
  go_enter Tryz.func159, Tryz.ntmps159
  go_wp2_with fail
  go_loopg [5, 6, 7] L (fun q v5 v6 v7 wr => ∃ (i : Nat) (sd sg : Bool), v5 = .int .i64 (i : Int) ∧ v6 = .bool sd ∧ v7 = .bool sg ∧ i + q = L ∧ i ≤ p ∧ Aside0 (SetW w0 wr g i))
  case atStart => exact ⟨0, false, false, rfl, rfl, rfl, by omega, by omega, ⟨es, m, dp, false, (HB.out.setNg false).setTr false, HD.out.1, HD.out.2⟩⟩
  case round =>
   clear HS HB HD f1 f2 c1 c2 hz t1 t2 t3 t4
   obtain ⟨i, sd, sg, h5, h6, h7, hq, hipL, HS⟩ := hrel
   have HQ := Aside0.mk hq
   have hil : i ≤ L := by omega
   clear hq
   subst h5 h6 h7
   by_cases hi : i < L
   ·obtain ⟨z, hz, hzc, hzp⟩ := num_eat HT.out HL0.out HE.out i hi hipL
    have HIP := Aside0.mk (And.intro hzp hipL)
    have t2 : (0 : Int) ≤ (i : Int) := by omega
    have t3 : (i : Int) < (L : Int) := by omega
    have t5 : ((z : Int) == 95) = false := by rw [beq_eq_false_iff_ne]; omega
    clear hi hzp
    rcases hzc with hzd | hzc
    ·have t6 : ((z : Int) == 46) = false := by rw [beq_eq_false_iff_ne]; omega
     have t7 : (48 : Int) ≤ (z : Int) := by omega
     have t8 : (z : Int) ≤ 57 := by omega
     obtain ⟨es, m, dp, tr, hB, hG, hm, hd1, hd2⟩ := HS.out
     have HB := Aside0.mk hB
     have HD := Aside0.mk (And.intro hG (And.intro hm (And.intro hd1 hd2)))
     have cn := hB.nd_
     have cd := hB.dp_
     have f0 := hB.froz 800
     have f1 := hB.froz 801
     clear hB hG hzd
     by_cases hl0 : z = 48 ∧ m = 0
     ·obtain ⟨rfl, rfl⟩ := hl0
      clear t6 t7 t8
      go_wp2_with fail
      go_roundg (L - (i + 1))
      case measure => have := HQ.out; omega
      case rel => exact ⟨i + 1, sd, true, by go_num, rfl, rfl, by omega, by have := HIP.out; omega, ⟨es, 0, dp - 1, tr, HB.out.setDp _, HD.out.1, by omega, by have := HD.out.2; omega, by have := HD.out.2; omega⟩⟩
     ·have t9 : ((z : Int) == 48 && (m : Int) == 0) = false := by
       rw [Bool.and_eq_false_iff]
       by_cases h48 : z = 48
       ·right; rw [beq_eq_false_iff_ne]; omega
       ·left; rw [beq_eq_false_iff_ne]; omega
      have HL := Aside0.mk hl0
      have m8 : (m : Int) < 800 := by omega
      have m0 : (0 : Int) ≤ (m : Int) := by omega
      have fm := HB.out.froz m
      obtain ⟨y, hy⟩ : ∃ y, es[m]? = some y := ⟨es[m]'(by have := HB.out.len; omega), List.getElem?_eq_getElem (by have := HB.out.len; omega)⟩
      have cm := HB.out.dig m y hy
      clear hl0 hy t9
      by_cases h48 : z = 48
      ·subst h48
       have t10 : ((m : Int) == 0) = false := by rw [beq_eq_false_iff_ne]; have := HL.out; omega
       clear t6 t7 t8
       go_wp2_with fail
       go_region
       go_wp2_with fail
       go_roundg (L - (i + 1))
       case measure => have := HQ.out; omega
       case rel => exact ⟨i + 1, sd, true, by go_num, rfl, rfl, by omega, by have := HIP.out; omega, ⟨_, m + 1, dp, tr, (by have hh := (HB.out.setDig m (by omega) 48).setNd ((m : Int) + 1); exact DecB.below (by simpa using hh) (by repeat (first | (with_reducible exact Below.refl _ _) | apply pw_below_drewN | apply below_drew1 | exact Below.refl _ _))), good_put HD.out.1 (by omega) 48 (by omega) (fun h _ => by have := HL.out; simp at this; omega), by omega, by have := HD.out.2; omega, by have := HD.out.2; omega⟩⟩
      ·have t10 : ((z : Int) == 48) = false := by rw [beq_eq_false_iff_ne]; omega
       clear h48
       go_wp2_with fail
       go_region
       go_wp2_with fail
       go_roundg (L - (i + 1))
       case measure => have := HQ.out; omega
       case rel => exact ⟨i + 1, sd, true, by go_num, rfl, rfl, by omega, by have := HIP.out; omega, ⟨_, m + 1, dp, tr, (by have hh := (HB.out.setDig m (by omega) z).setNd ((m : Int) + 1); exact DecB.below (by simpa using hh) (by repeat (first | (with_reducible exact Below.refl _ _) | apply pw_below_drewN | apply below_drew1 | exact Below.refl _ _))), good_put HD.out.1 (by omega) z (by omega) (fun h he => by have := beq_eq_false_iff_ne.1 t10; omega), by omega, by have := HD.out.2; omega, by have := HD.out.2; omega⟩⟩
    rcases hzc with hz46 | hzc
    ·subst hz46
     obtain ⟨es, m, dp, tr, hB, hG, hm, hd1, hd2⟩ := HS.out
     have HB := Aside0.mk hB
     have HD := Aside0.mk (And.intro hG (And.intro hm (And.intro hd1 hd2)))
     have cn := hB.nd_
     have cd := hB.dp_
     have f1 := hB.froz 801
     clear hB hG t5
     cases sd
     ·go_wp2_with fail
      go_roundg (L - (i + 1))
      case measure => have := HQ.out; omega
      case rel => exact ⟨i + 1, true, sg, by go_num, rfl, rfl, by omega, by have := HIP.out; omega, ⟨es, m, m, tr, HB.out.setDp _, HD.out.1, by omega, by have := HD.out.2; omega, by have := HD.out.2; omega⟩⟩
     ·go_wp2_with fail
      go_ret
      exact ⟨⟨_, rfl⟩, HS.out.e (by omega)⟩
    obtain ⟨es, m, dp, tr, hB, hG, hm, hd1, hd2⟩ := HS.out
    have HB := Aside0.mk hB
    have HD := Aside0.mk (And.intro hG (And.intro hm (And.intro hd1 hd2)))
    have cn := hB.nd_
    have cd := hB.dp_
    have f1 := hB.froz 801
    clear hB hG
    have t6 : ((z : Int) == 46) = false := by rw [beq_eq_false_iff_ne]; omega
    cases sg
    ·by_cases h48 : z < 48
     ·have t7 : ((48 : Int) ≤ (z : Int)) = False := eq_false (by omega)
      clear hzc
      go_wp2_with fail
      go_ret
      exact ⟨⟨_, rfl⟩, HS.out.e (by omega)⟩
     ·have t7 : (48 : Int) ≤ (z : Int) := by omega
      have t8 : ((z : Int) ≤ 57) = False := eq_false (by omega)
      clear hzc
      go_wp2_with fail
      go_ret
      exact ⟨⟨_, rfl⟩, HS.out.e (by omega)⟩
    have t9 : ((i : Int) != (L : Int)) = true := by rw [bne_iff_ne]; omega
    by_cases hze : z = 101 ∨ z = 69
    ·have hip : i = p := HIP.out.1.1 hze
     have hl := low_e2 z hze
     have t7 : (48 : Int) ≤ (z : Int) := by omega
     have t8 : ((z : Int) ≤ 57) = False := eq_false (by omega)
     clear hzc hze t9
     cases sd
     ·have HBE : Aside0 (DecB w0 (wr.setCell ⟨g, 801, none⟩ (.int .i64 m)) g es m (m : Int) false tr) := ⟨HB.out.setDp _⟩
      obtain ⟨I, hI⟩ : ∃ I, I = i + 1 := ⟨_, rfl⟩
      have iI : (i : Int) + 1 = (I : Int) := by omega
      have IL : I ≤ L := by omega
      have HRE : Aside0 (∀ W, Below (wr.setCell ⟨g, 801, none⟩ (.int .i64 m)).heap.size (wr.setCell ⟨g, 801, none⟩ (.int .i64 m)) W → SetE w0 W g) := ⟨fun W hb => ⟨es, m, (m : Int), tr, HBE.out.below hb, HD.out.1, by omega, by omega⟩⟩
      have x5 : ((I : Int) ≥ (L : Int)) := by omega
      clear hI hip
      go_wp2_with (first | (go_at_call 129; refine (lower_any _ _ hl _).mono ?_; rintro e_ w' ⟨rfl, ⟨n1, rfl⟩⟩))
      go_ret
      exact ⟨⟨_, rfl⟩, HRE.out _ (by repeat (first | (with_reducible exact Below.refl _ _) | apply pw_below_drewN | apply below_drew1 | exact Below.refl _ _))⟩
     ·have HBE : Aside0 (DecB w0 wr g es m dp false tr) := ⟨HB.out⟩
      obtain ⟨I, hI⟩ : ∃ I, I = i + 1 := ⟨_, rfl⟩
      have iI : (i : Int) + 1 = (I : Int) := by omega
      have IL : I ≤ L := by omega
      have HRE : Aside0 (∀ W, Below (wr).heap.size (wr) W → SetE w0 W g) := ⟨fun W hb => ⟨es, m, dp, tr, HBE.out.below hb, HD.out.1, by omega, by omega⟩⟩
      have x5 : ((I : Int) ≥ (L : Int)) := by omega
      clear hI hip
      go_wp2_with (first | (go_at_call 129; refine (lower_any _ _ hl _).mono ?_; rintro e_ w' ⟨rfl, ⟨n1, rfl⟩⟩))
      go_ret
      exact ⟨⟨_, rfl⟩, HRE.out _ (by repeat (first | (with_reducible exact Below.refl _ _) | apply pw_below_drewN | apply below_drew1 | exact Below.refl _ _))⟩
    ·have hz9 : z = 43 ∨ z = 45 := by omega
     clear hzc hze
     cases sd
     ·rcases hz9 with rfl | rfl
      ·have hl := low43
       clear t5 t6
       go_wp2_with (first | (go_at_call 129; refine (lower_any _ _ hl _).mono ?_; rintro e_ w' ⟨rfl, ⟨n1, rfl⟩⟩))
       go_ret
       exact ⟨⟨_, rfl⟩, ⟨es, m, m, tr, (HB.out.setDp _).below (by repeat (first | (with_reducible exact Below.refl _ _) | apply pw_below_drewN | apply below_drew1 | exact Below.refl _ _)), HD.out.1, by omega, by omega⟩⟩
      ·have hl := low45
       clear t5 t6
       go_wp2_with (first | (go_at_call 129; refine (lower_any _ _ hl _).mono ?_; rintro e_ w' ⟨rfl, ⟨n1, rfl⟩⟩))
       go_ret
       exact ⟨⟨_, rfl⟩, ⟨es, m, m, tr, (HB.out.setDp _).below (by repeat (first | (with_reducible exact Below.refl _ _) | apply pw_below_drewN | apply below_drew1 | exact Below.refl _ _)), HD.out.1, by omega, by omega⟩⟩
     ·rcases hz9 with rfl | rfl
      ·have hl := low43
       clear t5 t6
       go_wp2_with (first | (go_at_call 129; refine (lower_any _ _ hl _).mono ?_; rintro e_ w' ⟨rfl, ⟨n1, rfl⟩⟩))
       go_ret
       exact ⟨⟨_, rfl⟩, (HS.out.e (by omega)).below (by repeat (first | (with_reducible exact Below.refl _ _) | apply pw_below_drewN | apply below_drew1 | exact Below.refl _ _))⟩
      ·have hl := low45
       clear t5 t6
       go_wp2_with (first | (go_at_call 129; refine (lower_any _ _ hl _).mono ?_; rintro e_ w' ⟨rfl, ⟨n1, rfl⟩⟩))
       go_ret
       exact ⟨⟨_, rfl⟩, (HS.out.e (by omega)).below (by repeat (first | (with_reducible exact Below.refl _ _) | apply pw_below_drewN | apply below_drew1 | exact Below.refl _ _))⟩
   ·have t3 : ((i : Int) < (L : Int)) = False := eq_false (by omega)
    exfalso; omega
end Go.Proofs.YtjleceekccehoaaGreatDoor.Pr
end
