/- Texts of this session, cut down to what one claim needs and joined: FfReadN, FfReadZ. -/
import Derived.Test.YtjleceekccehoaaGreatDoorVGJ7
section
set_option linter.unusedVariables false
set_option linter.unusedSimpArgs false
namespace Go.Proofs.YtjleceekccehoaaGreatDoor.Pr
open Go.RowKit Go.Proofs.YtjleceekccehoaaGreatDoorW.PrintWords Go.Proofs.YtjleceekccehoaaGreatDoorW.PrintLast Go.Proofs.YtjleceekccehoaaGreatDoorW.PrintMore

set_option maxHeartbeats 8000000 in
set_option maxRecDepth 100000 in
theorem readFloat_N (l : List UInt8) (hT : NumT l) (p : Nat) (hE : EAt l p) (hpL : p = l.length)  (hn : l ≠ []) (w : World) :
  Calls Tryz.prog 153 #[.string (bs l)] w fun e w' => RdE l.length e ∧ Below w.heap.size w w' := by
 have hsz := bs_size l
 have hlen := hT.len
 obtain ⟨L, hL⟩ : ∃ L, l.length = L := ⟨_, rfl⟩
 have hL0 : 0 < L := by rw [← hL]; exact List.length_pos_iff.2 hn
 rw [hL] at hsz hlen hpL ⊢
 have HE := Aside0.mk hE
 clear hE
 have HT := Aside0.mk hT
 have HL0 := Aside0.mk hL
 clear hT hL hn
 obtain ⟨z, hz, -, hz0⟩ := num_at HT.out HL0.out 0 (by omega)
 have hz1 := hz0 rfl
 have t1 : decide (L = 0) = false := by simp; omega
 have t2 : (0 : Int) < (L : Int) := by omega
 have t3 : ((z : Int) == 43) = false := by rw [beq_eq_false_iff_ne]; omega
 have t4 : ((z : Int) == 45) = false := by rw [beq_eq_false_iff_ne]; omega
 have HLP := Aside0.mk hL0
 clear hz0 hz1 hL0
 go_enter Tryz.func153, Tryz.ntmps153
 go_wp2_with fail
 go_step3
 go_upto_region 12 with fail
 go_cut [54] from 36 to 54 (fun v54 wc => v54 = .bool false ∧ Aside0 (Below w.heap.size w wc))
 case first =>
  by_cases h2 : 2 < L
  ·obtain ⟨z1, hz1, hz1c, -⟩ := num_at HT.out HL0.out 1 (by omega)
   obtain ⟨r, hr, hr0⟩ := low_ex z1 hz1c
   have t5 : (1 : Int) < (L : Int) := by omega
   have t6 : (2 : Int) < (L : Int) := by omega
   have HR := Aside0.mk hr
   clear hz1c hr
   by_cases h48 : z = 48
   ·have t7 : ((z : Int) == 48) = true := by rw [beq_iff_eq]; omega
    clear h48
    go_wp2_with (first | (go_at_call 129; refine (lower_any _ _ HR.out _).mono ?_; rintro e_ w' ⟨rfl, ⟨n1, rfl⟩⟩))
    go_meet
    case rel => exact ⟨rfl, ⟨(by repeat (first | (with_reducible exact Below.refl _ _) | apply pw_below_drewN | apply below_drew1 | exact Below.refl _ _))⟩⟩
   ·have t7 : ((z : Int) == 48) = false := by rw [beq_eq_false_iff_ne]; omega
    clear h48
    go_wp2_with fail
    go_meet
    case rel => exact ⟨rfl, ⟨(by repeat (first | (with_reducible exact Below.refl _ _) | apply pw_below_drewN | apply below_drew1 | exact Below.refl _ _))⟩⟩
  ·have t6 : ((2 : Int) < (L : Int)) = False := eq_false (by omega)
   go_wp2_with fail
   go_meet
   case rel => exact ⟨rfl, ⟨(by repeat (first | (with_reducible exact Below.refl _ _) | apply pw_below_drewN | apply below_drew1 | exact Below.refl _ _))⟩⟩
 case rest =>
  obtain ⟨rfl, HW⟩ := hcut
  clear hz t3 t4
  go_wp2_with fail
  try go_step3
  go_wp2_with fail
  go_loopg [2, 5, 7, 9, 13, 14, 15, 16, 17] L (fun q v2 v5 v7 v9 v13 v14 v15 v16 v17 wr => ∃ (i m nm : Nat) (M dp : Int) (tr sd sg : Bool), v2 = .int .u64 M ∧ v5 = .bool tr ∧ v7 = .int .i64 (i : Int) ∧ v9 = .bool false ∧ v13 = .bool sd ∧ v14 = .bool sg ∧ v15 = .int .i64 (m : Int) ∧ v16 = .int .i64 (nm : Int) ∧ v17 = .int .i64 dp ∧ i + q = L ∧ i ≤ p ∧ m ≤ i ∧ nm ≤ 19 ∧ -(i : Int) ≤ dp ∧ dp ≤ i ∧ Aside0 (0 ≤ M ∧ M ≤ 18446744073709551615) ∧ Aside0 (Below w.heap.size w wr))
  case atStart => exact ⟨0, 0, 0, 0, 0, false, false, false, rfl, rfl, rfl, rfl, rfl, rfl, rfl, rfl, rfl, by omega, by omega, by omega, by omega, by omega, by omega, ⟨by omega, by omega⟩, ⟨by have := HW.out; first | exact this | exact below_step this (by repeat (first | (with_reducible exact Below.refl _ _) | apply pw_below_drewN | apply below_drew1 | exact Below.refl _ _))⟩⟩
  case round =>
   clear HW t1
   obtain ⟨i, m, nm, M, dp, tr, sd, sg, h2, h5, h7, h9, h13, h14, h15, h16, h17, hq, hipL, hm, hnm, hd1, hd2, HM, HW⟩ := hrel
   have HQ := Aside0.mk hq
   have hil : i ≤ L := by omega
   clear hq
   subst h2 h5 h7 h9 h13 h14 h15 h16 h17
   by_cases hi : i < L
   ·obtain ⟨z, hz, hzc, hzp⟩ := num_eat HT.out HL0.out HE.out i hi hipL
    have HIP := Aside0.mk (And.intro hzp hipL)
    have t2 : (0 : Int) ≤ (i : Int) := by omega
    have t3 : (i : Int) < (L : Int) := by omega
    have t5 : ((z : Int) == 95) = false := by rw [beq_eq_false_iff_ne]; omega
    clear hi hzp
    rcases hzc with hzd | hzc
    ·have t6 : ((z : Int) == 46) = false := by rw [beq_eq_false_iff_ne]; omega
     have t7 : (48 : Int) ≤ (z : Int) := by omega
     have t8 : (z : Int) ≤ 57 := by omega
     clear hzd
     by_cases h48 : z = 48
     ·subst h48
      clear t6 t7 t8
      by_cases hm0 : m = 0
      ·subst hm0
       go_wp2_with fail
       go_roundg (L - (i + 1))
       case measure => have := HQ.out; omega
       case rel => exact ⟨i + 1, 0, nm, M, dp - 1, tr, sd, true, rfl, rfl, by go_num, rfl, rfl, rfl, rfl, rfl, by go_num, by omega, by have := HIP.out; omega, by omega, by omega, by omega, by omega, HM, ⟨below_step HW.out (by repeat (first | (with_reducible exact Below.refl _ _) | apply pw_below_drewN | apply below_drew1 | exact Below.refl _ _))⟩⟩
      ·have t9 : ((m : Int) == 0) = false := by rw [beq_eq_false_iff_ne]; omega
       by_cases h19 : nm < 19
       ·have u1 : (nm : Int) < 19 := by omega
        go_wp2_with fail
        go_roundg (L - (i + 1))
        case measure => have := HQ.out; omega
        case rel => exact ⟨i + 1, m + 1, nm + 1, _, dp, tr, sd, true, rfl, rfl, by go_num, rfl, rfl, rfl, by go_num, by go_num, rfl, by omega, by have := HIP.out; omega, by omega, by omega, by omega, by omega, ⟨u64_rng _⟩, ⟨below_step HW.out (by repeat (first | (with_reducible exact Below.refl _ _) | apply pw_below_drewN | apply below_drew1 | exact Below.refl _ _))⟩⟩
       ·have u1 : ((nm : Int) < 19) = False := eq_false (by omega)
        go_wp2_with fail
        go_roundg (L - (i + 1))
        case measure => have := HQ.out; omega
        case rel => exact ⟨i + 1, m + 1, nm, M, dp, tr, sd, true, rfl, rfl, by go_num, rfl, rfl, rfl, by go_num, rfl, rfl, by omega, by have := HIP.out; omega, by omega, by omega, by omega, by omega, HM, ⟨below_step HW.out (by repeat (first | (with_reducible exact Below.refl _ _) | apply pw_below_drewN | apply below_drew1 | exact Below.refl _ _))⟩⟩
     ·have t10 : ((z : Int) == 48) = false := by rw [beq_eq_false_iff_ne]; omega
      clear h48
      by_cases h19 : nm < 19
      ·have u1 : (nm : Int) < 19 := by omega
       go_wp2_with fail
       go_roundg (L - (i + 1))
       case measure => have := HQ.out; omega
       case rel => exact ⟨i + 1, m + 1, nm + 1, _, dp, tr, sd, true, rfl, rfl, by go_num, rfl, rfl, rfl, by go_num, by go_num, rfl, by omega, by have := HIP.out; omega, by omega, by omega, by omega, by omega, ⟨u64_rng _⟩, ⟨below_step HW.out (by repeat (first | (with_reducible exact Below.refl _ _) | apply pw_below_drewN | apply below_drew1 | exact Below.refl _ _))⟩⟩
      ·have u1 : ((nm : Int) < 19) = False := eq_false (by omega)
       go_wp2_with fail
       go_roundg (L - (i + 1))
       case measure => have := HQ.out; omega
       case rel => exact ⟨i + 1, m + 1, nm, M, dp, true, sd, true, rfl, rfl, by go_num, rfl, rfl, rfl, by go_num, rfl, rfl, by omega, by have := HIP.out; omega, by omega, by omega, by omega, by omega, HM, ⟨below_step HW.out (by repeat (first | (with_reducible exact Below.refl _ _) | apply pw_below_drewN | apply below_drew1 | exact Below.refl _ _))⟩⟩
    rcases hzc with hz46 | hzc
    ·subst hz46
     clear t5
     cases sd
     ·go_wp2_with fail
      go_roundg (L - (i + 1))
      case measure => have := HQ.out; omega
      case rel => exact ⟨i + 1, m, nm, M, m, tr, true, sg, rfl, rfl, by go_num, rfl, rfl, rfl, rfl, rfl, rfl, by omega, by have := HIP.out; omega, by omega, by omega, by omega, by omega, HM, ⟨below_step HW.out (by repeat (first | (with_reducible exact Below.refl _ _) | apply pw_below_drewN | apply below_drew1 | exact Below.refl _ _))⟩⟩
     ·have hl := low120
      cases sg
      ·go_wp2_with fail
       all_goals
        (try simp only [Exit.noGoto])
        refine bodyPost_ret (results_list (rs := [.tmp 2, .tmp 3, .tmp 4, .tmp 5, .tmp 6, .tmp 7, .tmp 8]) rfl (by simp) (.tmp (.tmp (.tmp (.tmp (.tmp (.tmp (.tmp .nil)))))))) rfl ?_
        exact ⟨⟨_, _, _, _, i, rfl, HM.out.1, HM.out.2, by omega⟩, below_step HW.out (by repeat (first | (with_reducible exact Below.refl _ _) | apply pw_below_drewN | apply below_drew1 | exact Below.refl _ _))⟩
      ·go_wp2_with (first | (go_at_call 129; refine (lower_any _ _ hl _).mono ?_; rintro e_ w' ⟨rfl, ⟨n1, rfl⟩⟩))
       all_goals
        (try simp only [Exit.noGoto])
        refine bodyPost_ret (results_list (rs := [.tmp 2, .tmp 3, .tmp 4, .tmp 5, .tmp 6, .tmp 7, .tmp 8]) rfl (by simp) (.tmp (.tmp (.tmp (.tmp (.tmp (.tmp (.tmp .nil)))))))) rfl ?_
        exact ⟨⟨_, _, _, _, i, rfl, HM.out.1, HM.out.2, by omega⟩, below_step HW.out (by repeat (first | (with_reducible exact Below.refl _ _) | apply pw_below_drewN | apply below_drew1 | exact Below.refl _ _))⟩
    have t6 : ((z : Int) == 46) = false := by rw [beq_eq_false_iff_ne]; omega
    have hz9 : z = 43 ∨ z = 45 := by have := HIP.out; omega
    clear hzc
    cases sg
    ·rcases hz9 with rfl | rfl
     all_goals
      clear t5 t6
      go_wp2_with fail
      all_goals
       (try simp only [Exit.noGoto])
       refine bodyPost_ret (results_list (rs := [.tmp 2, .tmp 3, .tmp 4, .tmp 5, .tmp 6, .tmp 7, .tmp 8]) rfl (by simp) (.tmp (.tmp (.tmp (.tmp (.tmp (.tmp (.tmp .nil)))))))) rfl ?_
       exact ⟨⟨_, _, _, _, i, rfl, HM.out.1, HM.out.2, by omega⟩, below_step HW.out (by repeat (first | (with_reducible exact Below.refl _ _) | apply pw_below_drewN | apply below_drew1 | exact Below.refl _ _))⟩
    cases sd
    all_goals
     rcases hz9 with rfl | rfl
     ·have hl := low43
      clear t5 t6
      go_wp2_with (first | (go_at_call 129; refine (lower_any _ _ hl _).mono ?_; rintro e_ w' ⟨rfl, ⟨n1, rfl⟩⟩))
      all_goals
       (try simp only [Exit.noGoto])
       refine bodyPost_ret (results_list (rs := [.tmp 2, .tmp 3, .tmp 4, .tmp 5, .tmp 6, .tmp 7, .tmp 8]) rfl (by simp) (.tmp (.tmp (.tmp (.tmp (.tmp (.tmp (.tmp .nil)))))))) rfl ?_
       exact ⟨⟨_, _, _, _, i, rfl, HM.out.1, HM.out.2, by omega⟩, below_step HW.out (by repeat (first | (with_reducible exact Below.refl _ _) | apply pw_below_drewN | apply below_drew1 | exact Below.refl _ _))⟩
     ·have hl := low45
      clear t5 t6
      go_wp2_with (first | (go_at_call 129; refine (lower_any _ _ hl _).mono ?_; rintro e_ w' ⟨rfl, ⟨n1, rfl⟩⟩))
      all_goals
       (try simp only [Exit.noGoto])
       refine bodyPost_ret (results_list (rs := [.tmp 2, .tmp 3, .tmp 4, .tmp 5, .tmp 6, .tmp 7, .tmp 8]) rfl (by simp) (.tmp (.tmp (.tmp (.tmp (.tmp (.tmp (.tmp .nil)))))))) rfl ?_
       exact ⟨⟨_, _, _, _, i, rfl, HM.out.1, HM.out.2, by omega⟩, below_step HW.out (by repeat (first | (with_reducible exact Below.refl _ _) | apply pw_below_drewN | apply below_drew1 | exact Below.refl _ _))⟩
   ·have t3 : ((i : Int) < (L : Int)) = False := eq_false (by omega)
    cases sg
    ·go_wp2_with fail
     all_goals
      (try simp only [Exit.noGoto])
      refine bodyPost_ret (results_list (rs := [.tmp 2, .tmp 3, .tmp 4, .tmp 5, .tmp 6, .tmp 7, .tmp 8]) rfl (by simp) (.tmp (.tmp (.tmp (.tmp (.tmp (.tmp (.tmp .nil)))))))) rfl ?_
      exact ⟨⟨_, _, _, _, i, rfl, HM.out.1, HM.out.2, by omega⟩, below_step HW.out (by repeat (first | (with_reducible exact Below.refl _ _) | apply pw_below_drewN | apply below_drew1 | exact Below.refl _ _))⟩
    cases sd
    all_goals
     go_wp2_with fail
     all_goals
      (try simp only [Exit.noGoto])
      refine bodyPost_ret (results_list (rs := [.tmp 2, .tmp 3, .tmp 4, .tmp 5, .tmp 6, .tmp 7, .tmp 8]) rfl (by simp) (.tmp (.tmp (.tmp (.tmp (.tmp (.tmp (.tmp .nil)))))))) rfl ?_
      exact ⟨⟨_, _, _, _, i, rfl, HM.out.1, HM.out.2, by omega⟩, below_step HW.out (by repeat (first | (with_reducible exact Below.refl _ _) | apply pw_below_drewN | apply below_drew1 | exact Below.refl _ _))⟩
end Go.Proofs.YtjleceekccehoaaGreatDoor.Pr
end

section
set_option linter.unusedVariables false
set_option linter.unusedSimpArgs false
namespace Go.Proofs.YtjleceekccehoaaGreatDoor.Pr
open Go.RowKit Go.Proofs.YtjleceekccehoaaGreatDoorW.PrintWords Go.Proofs.YtjleceekccehoaaGreatDoorW.PrintLast Go.Proofs.YtjleceekccehoaaGreatDoorW.PrintMore

set_option maxHeartbeats 8000000 in
set_option maxRecDepth 100000 in
theorem readFloat_Z (l : List UInt8) (hT : NumT l) (p : Nat) (hE : EAt l p) (hpL : p + 1 = l.length)  (hn : l ≠ []) (w : World) :
  Calls Tryz.prog 153 #[.string (bs l)] w fun e w' => RdE l.length e ∧ Below w.heap.size w w' := by
 have hsz := bs_size l
 have hlen := hT.len
 obtain ⟨L, hL⟩ : ∃ L, l.length = L := ⟨_, rfl⟩
 have hL0 : 0 < L := by rw [← hL]; exact List.length_pos_iff.2 hn
 rw [hL] at hsz hlen hpL ⊢
 have HE := Aside0.mk hE
 clear hE
 have HT := Aside0.mk hT
 have HL0 := Aside0.mk hL
 clear hT hL hn
 obtain ⟨z, hz, -, hz0⟩ := num_at HT.out HL0.out 0 (by omega)
 have hz1 := hz0 rfl
 have t1 : decide (L = 0) = false := by simp; omega
 have t2 : (0 : Int) < (L : Int) := by omega
 have t3 : ((z : Int) == 43) = false := by rw [beq_eq_false_iff_ne]; omega
 have t4 : ((z : Int) == 45) = false := by rw [beq_eq_false_iff_ne]; omega
 have HLP := Aside0.mk hL0
 clear hz0 hz1 hL0
 go_enter Tryz.func153, Tryz.ntmps153
 go_wp2_with fail
 go_step3
 go_upto_region 12 with fail
 go_cut [54] from 36 to 54 (fun v54 wc => v54 = .bool false ∧ Aside0 (Below w.heap.size w wc))
 case first =>
  by_cases h2 : 2 < L
  ·obtain ⟨z1, hz1, hz1c, -⟩ := num_at HT.out HL0.out 1 (by omega)
   obtain ⟨r, hr, hr0⟩ := low_ex z1 hz1c
   have t5 : (1 : Int) < (L : Int) := by omega
   have t6 : (2 : Int) < (L : Int) := by omega
   have HR := Aside0.mk hr
   clear hz1c hr
   by_cases h48 : z = 48
   ·have t7 : ((z : Int) == 48) = true := by rw [beq_iff_eq]; omega
    clear h48
    go_wp2_with (first | (go_at_call 129; refine (lower_any _ _ HR.out _).mono ?_; rintro e_ w' ⟨rfl, ⟨n1, rfl⟩⟩))
    go_meet
    case rel => exact ⟨rfl, ⟨(by repeat (first | (with_reducible exact Below.refl _ _) | apply pw_below_drewN | apply below_drew1 | exact Below.refl _ _))⟩⟩
   ·have t7 : ((z : Int) == 48) = false := by rw [beq_eq_false_iff_ne]; omega
    clear h48
    go_wp2_with fail
    go_meet
    case rel => exact ⟨rfl, ⟨(by repeat (first | (with_reducible exact Below.refl _ _) | apply pw_below_drewN | apply below_drew1 | exact Below.refl _ _))⟩⟩
  ·have t6 : ((2 : Int) < (L : Int)) = False := eq_false (by omega)
   go_wp2_with fail
   go_meet
   case rel => exact ⟨rfl, ⟨(by repeat (first | (with_reducible exact Below.refl _ _) | apply pw_below_drewN | apply below_drew1 | exact Below.refl _ _))⟩⟩
 case rest =>
  obtain ⟨rfl, HW⟩ := hcut
  clear hz t3 t4
  go_wp2_with fail
  try go_step3
  go_wp2_with fail
  go_loopg [2, 5, 7, 9, 13, 14, 15, 16, 17] L (fun q v2 v5 v7 v9 v13 v14 v15 v16 v17 wr => ∃ (i m nm : Nat) (M dp : Int) (tr sd sg : Bool), v2 = .int .u64 M ∧ v5 = .bool tr ∧ v7 = .int .i64 (i : Int) ∧ v9 = .bool false ∧ v13 = .bool sd ∧ v14 = .bool sg ∧ v15 = .int .i64 (m : Int) ∧ v16 = .int .i64 (nm : Int) ∧ v17 = .int .i64 dp ∧ i + q = L ∧ i ≤ p ∧ m ≤ i ∧ nm ≤ 19 ∧ -(i : Int) ≤ dp ∧ dp ≤ i ∧ Aside0 (0 ≤ M ∧ M ≤ 18446744073709551615) ∧ Aside0 (Below w.heap.size w wr))
  case atStart => exact ⟨0, 0, 0, 0, 0, false, false, false, rfl, rfl, rfl, rfl, rfl, rfl, rfl, rfl, rfl, by omega, by omega, by omega, by omega, by omega, by omega, ⟨by omega, by omega⟩, ⟨by have := HW.out; first | exact this | exact below_step this (by repeat (first | (with_reducible exact Below.refl _ _) | apply pw_below_drewN | apply below_drew1 | exact Below.refl _ _))⟩⟩
  case round =>
   clear HW t1
   obtain ⟨i, m, nm, M, dp, tr, sd, sg, h2, h5, h7, h9, h13, h14, h15, h16, h17, hq, hipL, hm, hnm, hd1, hd2, HM, HW⟩ := hrel
   have HQ := Aside0.mk hq
   have hil : i ≤ L := by omega
   clear hq
   subst h2 h5 h7 h9 h13 h14 h15 h16 h17
   by_cases hi : i < L
   ·obtain ⟨z, hz, hzc, hzp⟩ := num_eat HT.out HL0.out HE.out i hi hipL
    have HIP := Aside0.mk (And.intro hzp hipL)
    have t2 : (0 : Int) ≤ (i : Int) := by omega
    have t3 : (i : Int) < (L : Int) := by omega
    have t5 : ((z : Int) == 95) = false := by rw [beq_eq_false_iff_ne]; omega
    clear hi hzp
    rcases hzc with hzd | hzc
    ·have t6 : ((z : Int) == 46) = false := by rw [beq_eq_false_iff_ne]; omega
     have t7 : (48 : Int) ≤ (z : Int) := by omega
     have t8 : (z : Int) ≤ 57 := by omega
     clear hzd
     by_cases h48 : z = 48
     ·subst h48
      clear t6 t7 t8
      by_cases hm0 : m = 0
      ·subst hm0
       go_wp2_with fail
       go_roundg (L - (i + 1))
       case measure => have := HQ.out; omega
       case rel => exact ⟨i + 1, 0, nm, M, dp - 1, tr, sd, true, rfl, rfl, by go_num, rfl, rfl, rfl, rfl, rfl, by go_num, by omega, by have := HIP.out; omega, by omega, by omega, by omega, by omega, HM, ⟨below_step HW.out (by repeat (first | (with_reducible exact Below.refl _ _) | apply pw_below_drewN | apply below_drew1 | exact Below.refl _ _))⟩⟩
      ·have t9 : ((m : Int) == 0) = false := by rw [beq_eq_false_iff_ne]; omega
       by_cases h19 : nm < 19
       ·have u1 : (nm : Int) < 19 := by omega
        go_wp2_with fail
        go_roundg (L - (i + 1))
        case measure => have := HQ.out; omega
        case rel => exact ⟨i + 1, m + 1, nm + 1, _, dp, tr, sd, true, rfl, rfl, by go_num, rfl, rfl, rfl, by go_num, by go_num, rfl, by omega, by have := HIP.out; omega, by omega, by omega, by omega, by omega, ⟨u64_rng _⟩, ⟨below_step HW.out (by repeat (first | (with_reducible exact Below.refl _ _) | apply pw_below_drewN | apply below_drew1 | exact Below.refl _ _))⟩⟩
       ·have u1 : ((nm : Int) < 19) = False := eq_false (by omega)
        go_wp2_with fail
        go_roundg (L - (i + 1))
        case measure => have := HQ.out; omega
        case rel => exact ⟨i + 1, m + 1, nm, M, dp, tr, sd, true, rfl, rfl, by go_num, rfl, rfl, rfl, by go_num, rfl, rfl, by omega, by have := HIP.out; omega, by omega, by omega, by omega, by omega, HM, ⟨below_step HW.out (by repeat (first | (with_reducible exact Below.refl _ _) | apply pw_below_drewN | apply below_drew1 | exact Below.refl _ _))⟩⟩
     ·have t10 : ((z : Int) == 48) = false := by rw [beq_eq_false_iff_ne]; omega
      clear h48
      by_cases h19 : nm < 19
      ·have u1 : (nm : Int) < 19 := by omega
       go_wp2_with fail
       go_roundg (L - (i + 1))
       case measure => have := HQ.out; omega
       case rel => exact ⟨i + 1, m + 1, nm + 1, _, dp, tr, sd, true, rfl, rfl, by go_num, rfl, rfl, rfl, by go_num, by go_num, rfl, by omega, by have := HIP.out; omega, by omega, by omega, by omega, by omega, ⟨u64_rng _⟩, ⟨below_step HW.out (by repeat (first | (with_reducible exact Below.refl _ _) | apply pw_below_drewN | apply below_drew1 | exact Below.refl _ _))⟩⟩
      ·have u1 : ((nm : Int) < 19) = False := eq_false (by omega)
       go_wp2_with fail
       go_roundg (L - (i + 1))
       case measure => have := HQ.out; omega
       case rel => exact ⟨i + 1, m + 1, nm, M, dp, true, sd, true, rfl, rfl, by go_num, rfl, rfl, rfl, by go_num, rfl, rfl, by omega, by have := HIP.out; omega, by omega, by omega, by omega, by omega, HM, ⟨below_step HW.out (by repeat (first | (with_reducible exact Below.refl _ _) | apply pw_below_drewN | apply below_drew1 | exact Below.refl _ _))⟩⟩
    rcases hzc with hz46 | hzc
    ·subst hz46
     clear t5
     cases sd
     ·go_wp2_with fail
      go_roundg (L - (i + 1))
      case measure => have := HQ.out; omega
      case rel => exact ⟨i + 1, m, nm, M, m, tr, true, sg, rfl, rfl, by go_num, rfl, rfl, rfl, rfl, rfl, rfl, by omega, by have := HIP.out; omega, by omega, by omega, by omega, by omega, HM, ⟨below_step HW.out (by repeat (first | (with_reducible exact Below.refl _ _) | apply pw_below_drewN | apply below_drew1 | exact Below.refl _ _))⟩⟩
     ·have hl := low120
      cases sg
      ·go_wp2_with fail
       all_goals
        (try simp only [Exit.noGoto])
        refine bodyPost_ret (results_list (rs := [.tmp 2, .tmp 3, .tmp 4, .tmp 5, .tmp 6, .tmp 7, .tmp 8]) rfl (by simp) (.tmp (.tmp (.tmp (.tmp (.tmp (.tmp (.tmp .nil)))))))) rfl ?_
        exact ⟨⟨_, _, _, _, i, rfl, HM.out.1, HM.out.2, by omega⟩, below_step HW.out (by repeat (first | (with_reducible exact Below.refl _ _) | apply pw_below_drewN | apply below_drew1 | exact Below.refl _ _))⟩
      ·go_wp2_with (first | (go_at_call 129; refine (lower_any _ _ hl _).mono ?_; rintro e_ w' ⟨rfl, ⟨n1, rfl⟩⟩))
       all_goals
        (try simp only [Exit.noGoto])
        refine bodyPost_ret (results_list (rs := [.tmp 2, .tmp 3, .tmp 4, .tmp 5, .tmp 6, .tmp 7, .tmp 8]) rfl (by simp) (.tmp (.tmp (.tmp (.tmp (.tmp (.tmp (.tmp .nil)))))))) rfl ?_
        exact ⟨⟨_, _, _, _, i, rfl, HM.out.1, HM.out.2, by omega⟩, below_step HW.out (by repeat (first | (with_reducible exact Below.refl _ _) | apply pw_below_drewN | apply below_drew1 | exact Below.refl _ _))⟩
    have t6 : ((z : Int) == 46) = false := by rw [beq_eq_false_iff_ne]; omega
    cases sg
    ·by_cases h48 : z < 48
     ·have t7 : ((48 : Int) ≤ (z : Int)) = False := eq_false (by omega)
      clear hzc
      go_wp2_with fail
      all_goals
       (try simp only [Exit.noGoto])
       refine bodyPost_ret (results_list (rs := [.tmp 2, .tmp 3, .tmp 4, .tmp 5, .tmp 6, .tmp 7, .tmp 8]) rfl (by simp) (.tmp (.tmp (.tmp (.tmp (.tmp (.tmp (.tmp .nil)))))))) rfl ?_
       exact ⟨⟨_, _, _, _, i, rfl, HM.out.1, HM.out.2, by omega⟩, below_step HW.out (by repeat (first | (with_reducible exact Below.refl _ _) | apply pw_below_drewN | apply below_drew1 | exact Below.refl _ _))⟩
     ·have t7 : (48 : Int) ≤ (z : Int) := by omega
      have t8 : ((z : Int) ≤ 57) = False := eq_false (by omega)
      clear hzc
      go_wp2_with fail
      all_goals
       (try simp only [Exit.noGoto])
       refine bodyPost_ret (results_list (rs := [.tmp 2, .tmp 3, .tmp 4, .tmp 5, .tmp 6, .tmp 7, .tmp 8]) rfl (by simp) (.tmp (.tmp (.tmp (.tmp (.tmp (.tmp (.tmp .nil)))))))) rfl ?_
       exact ⟨⟨_, _, _, _, i, rfl, HM.out.1, HM.out.2, by omega⟩, below_step HW.out (by repeat (first | (with_reducible exact Below.refl _ _) | apply pw_below_drewN | apply below_drew1 | exact Below.refl _ _))⟩
    by_cases hze : z = 101 ∨ z = 69
    ·have hip : i = p := HIP.out.1.1 hze
     have hl := low_e2 z hze
     have t7 : (48 : Int) ≤ (z : Int) := by omega
     have t8 : ((z : Int) ≤ 57) = False := eq_false (by omega)
     clear hzc hze
     cases sd
     all_goals
      obtain ⟨I, hI⟩ : ∃ I, I = i + 1 := ⟨_, rfl⟩
      have iI : (i : Int) + 1 = (I : Int) := by omega
      have IL : I ≤ L := by omega
      have x5 : ((I : Int) ≥ (L : Int)) := by omega
      clear hI hip
      go_wp2_with (first | (go_at_call 129; refine (lower_any _ _ hl _).mono ?_; rintro e_ w' ⟨rfl, ⟨n1, rfl⟩⟩))
      all_goals
       (try simp only [Exit.noGoto])
       refine bodyPost_ret (results_list (rs := [.tmp 2, .tmp 3, .tmp 4, .tmp 5, .tmp 6, .tmp 7, .tmp 8]) rfl (by simp) (.tmp (.tmp (.tmp (.tmp (.tmp (.tmp (.tmp .nil)))))))) rfl ?_
       exact ⟨⟨_, _, _, _, I, rfl, HM.out.1, HM.out.2, by omega⟩, below_step HW.out (by repeat (first | (with_reducible exact Below.refl _ _) | apply pw_below_drewN | apply below_drew1 | exact Below.refl _ _))⟩
    ·have hz9 : z = 43 ∨ z = 45 := by omega
     clear hzc hze
     cases sd
     all_goals
      rcases hz9 with rfl | rfl
      ·have hl := low43
       clear t5 t6
       go_wp2_with (first | (go_at_call 129; refine (lower_any _ _ hl _).mono ?_; rintro e_ w' ⟨rfl, ⟨n1, rfl⟩⟩))
       all_goals
        (try simp only [Exit.noGoto])
        refine bodyPost_ret (results_list (rs := [.tmp 2, .tmp 3, .tmp 4, .tmp 5, .tmp 6, .tmp 7, .tmp 8]) rfl (by simp) (.tmp (.tmp (.tmp (.tmp (.tmp (.tmp (.tmp .nil)))))))) rfl ?_
        exact ⟨⟨_, _, _, _, i, rfl, HM.out.1, HM.out.2, by omega⟩, below_step HW.out (by repeat (first | (with_reducible exact Below.refl _ _) | apply pw_below_drewN | apply below_drew1 | exact Below.refl _ _))⟩
      ·have hl := low45
       clear t5 t6
       go_wp2_with (first | (go_at_call 129; refine (lower_any _ _ hl _).mono ?_; rintro e_ w' ⟨rfl, ⟨n1, rfl⟩⟩))
       all_goals
        (try simp only [Exit.noGoto])
        refine bodyPost_ret (results_list (rs := [.tmp 2, .tmp 3, .tmp 4, .tmp 5, .tmp 6, .tmp 7, .tmp 8]) rfl (by simp) (.tmp (.tmp (.tmp (.tmp (.tmp (.tmp (.tmp .nil)))))))) rfl ?_
        exact ⟨⟨_, _, _, _, i, rfl, HM.out.1, HM.out.2, by omega⟩, below_step HW.out (by repeat (first | (with_reducible exact Below.refl _ _) | apply pw_below_drewN | apply below_drew1 | exact Below.refl _ _))⟩
   ·have t3 : ((i : Int) < (L : Int)) = False := eq_false (by omega)
    exfalso; omega
end Go.Proofs.YtjleceekccehoaaGreatDoor.Pr
end
