/- Texts of this session, cut down to what one claim needs and joined: FfBits2, FfAtof. -/
import Derived.Test.YtjleceekccehoaaGreatDoorVGJ7
import Derived.Test.YtjleceekccehoaaGreatDoorVGJ4
import Derived.Test.YtjleceekccehoaaGreatDoorVGJ10
import Derived.Test.YtjleceekccehoaaGreatDoorVGJ11
section
set_option linter.unusedVariables false
set_option linter.unusedSimpArgs false
namespace Go.Proofs.YtjleceekccehoaaGreatDoor.Pr
open Go.RowKit Go.Proofs.YtjleceekccehoaaGreatDoor.Dec Go.Proofs.YtjleceekccehoaaGreatDoorW.PrintWords Go.Proofs.YtjleceekccehoaaGreatDoorW.PrintLast Go.Proofs.YtjleceekccehoaaGreatDoorW.PrintMore
attribute [local go_sem] jumps_goto jumps_normal jumps_exit jumps_ret

set_option maxHeartbeats 4000000 in
set_option maxRecDepth 100000 in
theorem floatBits_any (g : Nat) (ds : List Int) (n : Nat) (dp : Int) (ng tr : Bool) (d1 : -1000000 ≤ dp) (d2 : dp ≤ 1000000) (w0 w : World) (h : DecB w0 w g ds n dp ng tr) (hG : GoodD ds n) (hC : LaidC w0) (hQ : LaidQ w0) :
  Calls Tryz.prog 160 #[.pointer (some ⟨g, 0, none⟩), .pointer (some ⟨13, 0, none⟩)] w fun e w' => IsNB e ∧ Below w0.heap.size w0 w' := by
 go_enter Tryz.func160, Tryz.ntmps160
 go_wp2_with fail
 refine wp_scope_fwd (FbJ w0 g) (fun l => l) ?_ ?_
 ·have HB := Aside0.mk h
  have HG := Aside0.mk hG
  have HC := Aside0.mk hC
  have HQ := Aside0.mk hQ
  have cn := h.nd_
  have cd := h.dp_
  have i2 := pw_cell_below h.bel hQ.bias
  clear h hG hC hQ
  by_cases hn : n = 0
  ·subst hn
   have t1 : ((((0 : Nat) : Int)) == 0) = true := rfl
   go_wp2_with fail
   go_step3
   exact ⟨⟨_, rfl⟩, FbJ.intro _ _ _ _ _ _ _ _ rfl rfl rfl rfl rfl rfl rfl (by omega) ⟨_, _, _, _, _, HB.out⟩⟩
  ·have t1 : (((n : Int)) == 0) = false := by rw [beq_eq_false_iff_ne]; omega
   have hn1 : 1 ≤ n := by omega
   have HN := Aside0.mk hn1
   clear hn hn1
   by_cases hp : dp > 310
   ·go_wp2_with fail
    go_step3
    exact ⟨⟨_, rfl⟩, FbJ.intro _ _ _ _ _ _ _ _ rfl rfl rfl rfl rfl rfl rfl (by omega) ⟨_, _, _, _, _, HB.out⟩⟩
   ·have s1 : (dp > 310) = False := by simp; omega
    by_cases hm : dp < -330
    ·go_wp2_with fail
     go_step3
     exact ⟨⟨_, rfl⟩, FbJ.intro _ _ _ _ _ _ _ _ rfl rfl rfl rfl rfl rfl rfl (by omega) ⟨_, _, _, _, _, HB.out⟩⟩
    ·have s2 : (dp < -330) = False := by simp; omega
     have HDP := Aside0.mk (And.intro hp hm)
     clear hp hm
     go_wp2_with fail
     go_loopg [6] 3120 (fun q v6 wr => ∃ x : Int, v6 = .int .i64 x ∧ 0 ≤ x ∧ x ≤ 27 * (3120 - (q : Int)) ∧ Aside0 (∃ es m dp' tr', Sh w0 wr g ng es m dp' tr' ∧ dp' ≤ 310 ∧ -600 ≤ dp' ∧ ∀ y, es[0]? = some y → 10 * dp' + (y - 48) ≤ q))
     case atStart => exact ⟨0, rfl, by omega, by omega, ⟨ds, n, dp, tr, ⟨HB.out, HG.out, HN.out⟩, by have := HDP.out; omega, by have := HDP.out; omega, fun y hy => by have := HG.out.dig 0 y (by have := HN.out; omega) hy; have := HDP.out; omega⟩⟩
     case round =>
      clear cn cd t1 s1 s2
      obtain ⟨x, h6, hx1, hx2, HH⟩ := hrel
      obtain ⟨es, m, dp', tr', hS, hd1, hd2, hmm⟩ := HH.out
      have HS := Aside0.mk hS
      obtain ⟨y, hy⟩ : ∃ y, es[0]? = some y := ⟨es[0]'(by have := hS.good.len; omega), List.getElem?_eq_getElem (by have := hS.good.len; omega)⟩
      have hyd := hS.good.dig 0 y (by have := hS.pos; omega) hy
      have hy48 := hS.good.one (by have := hS.pos; omega) y hy
      have hm := hmm y hy
      have HM := Aside0.mk (And.intro hyd (And.intro hy48 hm))
      have HY := Aside0.mk hy
      have cd := hS.dec.dp_
      obtain ⟨pb, po, pc, p1, p2, p3⟩ := HQ.out.tab
      have cp := pw_cell_below hS.dec.bel p1
      have HDD := Aside0.mk (And.intro hd1 hd2)
      have HX := Aside0.mk (And.intro hx1 hx2)
      clear HH hS hmm hy hyd hy48 hm p1
      subst h6
      by_cases hp : dp' > 0
      ·by_cases h9 : dp' ≥ 9
       ·clear hd2
        have HBL : ∀ W, Below wr.heap.size wr W → Sh w0 W g ng es m dp' tr' := fun W hb => HS.out.below hb
        have HBLA := Aside0.mk HBL
        clear HBL p3
        go_wp2_with fail
        go_quiet (fail)
        go_wp2_with fail
        refine (shift_neg' 27 _ (by rfl) (by omega) (by omega) g es m dp' ng tr' (by omega) (by omega) w0 _ (HBLA.out _ (by repeat (first | (with_reducible exact Below.refl _ _) | apply pw_below_drewN | apply below_drew1 | exact Below.refl _ _)))).mono ?_
        rintro e_ w'' ⟨rfl, es2, m2, dp2, tr2, hS2, hle, hge, hf⟩
        have HS2 := Aside0.mk (And.intro hS2 (And.intro hle (And.intro hge hf)))
        have b1 := HX.out
        clear hS2 hle hge hf
        go_wp2_with fail
        go_roundg (gk - 1)
        case measure => have := HM.out; omega
        case rel =>
         obtain ⟨q1, q2, q3, q4⟩ := HS2.out
         refine ⟨x + 27, by go_num, by omega, by have := HM.out; omega, ⟨es2, m2, dp2, tr2, q1, by omega, by omega, fun z hz => ?_⟩⟩
         have hzd := q1.good.dig 0 z (by have := q1.pos; omega) hz
         have := HM.out
         by_cases he : dp2 = dp'
         ·have := q4 (by omega) he y z HY.out hz; omega
         ·omega
       ·obtain ⟨i, rfl⟩ : ∃ i : Nat, dp' = i := ⟨dp'.toNat, by omega⟩
        obtain ⟨v, p4, v1, v2⟩ := p3 i (by omega)
        have cv := pw_cell_below HS.out.dec.bel p4
        have s3 : ((i : Int) ≥ 9) = False := by simp; omega
        have z0 : (0 : Int) ≤ (i : Int) := by omega
        have z1 : (i : Int) < 9 := by omega
        have HBL : ∀ W, Below wr.heap.size wr W → Sh w0 W g ng es m i tr' := fun W hb => HS.out.below hb
        have HBLA := Aside0.mk HBL
        clear HBL p3 p4 hd2
        go_wp2_with fail
        go_quiet (fail)
        go_wp2_with fail
        go_quiet (fail)
        go_wp2_with fail
        refine (shift_neg' v _ (by rfl) (by omega) (by omega) g es m i ng tr' (by omega) (by omega) w0 _ (HBLA.out _ (by repeat (first | (with_reducible exact Below.refl _ _) | apply pw_below_drewN | apply below_drew1 | exact Below.refl _ _)))).mono ?_
        rintro e_ w'' ⟨rfl, es2, m2, dp2, tr2, hS2, hle, hge, hf⟩
        have HS2 := Aside0.mk (And.intro hS2 (And.intro hle (And.intro hge hf)))
        have b1 := HX.out
        clear hS2 hle hge hf
        go_wp2_with fail
        go_roundg (gk - 1)
        case measure => have := HM.out; omega
        case rel =>
         obtain ⟨q1, q2, q3, q4⟩ := HS2.out
         refine ⟨x + v, by go_num, by omega, by have := HM.out; omega, ⟨es2, m2, dp2, tr2, q1, by omega, by omega, fun z hz => ?_⟩⟩
         have hzd := q1.good.dig 0 z (by have := q1.pos; omega) hz
         have := HM.out
         by_cases he : dp2 = (i : Int)
         ·have := q4 (by omega) he y z HY.out hz; omega
         ·omega
      ·have s3 : (dp' > 0) = False := by simp; omega
       have HP0 := Aside0.mk hp
       clear hp p3 hd2
       have b1 := HX.out
       go_wp2_with fail
       go_loopg [6] 6040 (fun q v6 wr => ∃ x : Int, v6 = .int .i64 x ∧ x ≤ 90000 ∧ -(27 * (6040 - (q : Int))) ≤ x ∧ Aside0 (∃ es m dp' tr', Sh w0 wr g ng es m dp' tr' ∧ dp' ≤ 600 ∧ -600 ≤ dp' ∧ ∀ y, es[0]? = some y → -10 * dp' - (y - 48) + 20 ≤ q))
       case atStart => exact ⟨x, rfl, by omega, by omega, ⟨es, m, dp', tr', HS.out, by have := HDD.out; omega, by have := HDD.out; omega, fun z hz => by have := HM.out; have := HDD.out; have h1 := HY.out; rw [hz] at h1; injection h1 with h1; omega⟩⟩
       case round =>
        clear HS HM HY cd cp HX b1 HDD HP0 s3
        obtain ⟨x, h6, hx1, hx2, HH⟩ := hrel
        obtain ⟨es, m, dp', tr', hS, hd1, hd2, hmm⟩ := HH.out
        have HS := Aside0.mk hS
        obtain ⟨y, hy⟩ : ∃ y, es[0]? = some y := ⟨es[0]'(by have := hS.good.len; omega), List.getElem?_eq_getElem (by have := hS.good.len; omega)⟩
        have hyd := hS.good.dig 0 y (by have := hS.pos; omega) hy
        have hy48 := hS.good.one (by have := hS.pos; omega) y hy
        have hm := hmm y hy
        have HM := Aside0.mk (And.intro hyd (And.intro hy48 hm))
        have HY := Aside0.mk hy
        have cd := hS.dec.dp_
        have cy := hS.dec.dig 0 y hy
        obtain ⟨pb, po, pc, p1, p2, p3⟩ := HQ.out.tab
        have cp := pw_cell_below hS.dec.bel p1
        have HDD := Aside0.mk (And.intro hd1 hd2)
        have HX := Aside0.mk (And.intro hx1 hx2)
        clear HH hS hmm hy hy48 hm p1 hx1 hx2
        subst h6
        by_cases hneg : dp' < 0
        ·clear hyd
         by_cases h9 : -dp' ≥ 9
         ·clear hd1 p3
          have HBLA : Aside0 (∀ W, Below wr.heap.size wr W → Sh w0 W g ng es m dp' tr') := ⟨fun W hb => HS.out.below hb⟩
          go_wp2_with fail
          go_quiet (fail)
          go_wp2_with fail
          refine (shift_pos' 27 _ (by rfl) (by omega) (by omega) g es m dp' ng tr' (by omega) (by omega) w0 _ (HBLA.out _ (by repeat (first | (with_reducible exact Below.refl _ _) | apply pw_below_drewN | apply below_drew1 | exact Below.refl _ _))) HC.out).mono ?_
          rintro e_ w'' ⟨rfl, es2, m2, dp2, tr2, hS2, hle, hge, hf⟩
          have HS2 := Aside0.mk (And.intro hS2 (And.intro hle (And.intro hge hf)))
          have b1 := HX.out
          clear hS2 hle hge hf
          go_wp2_with fail
          go_roundg (gk - 1)
          case measure => have := HM.out; omega
          case rel =>
           obtain ⟨q1, q2, q3, q4⟩ := HS2.out
           refine ⟨x - 27, by go_num, by omega, by have := HM.out; omega, ⟨es2, m2, dp2, tr2, q1, by omega, by omega, fun z hz => ?_⟩⟩
           have hzd := q1.good.dig 0 z (by have := q1.pos; omega) hz
           have hz48 := q1.good.one (by have := q1.pos; omega) z hz
           have := HM.out
           by_cases he : dp2 = dp'
           ·have := q4 (by omega) he y z HY.out hz; omega
           ·omega
         ·obtain ⟨i, hi⟩ : ∃ i : Nat, -dp' = i := ⟨(-dp').toNat, by omega⟩
          obtain ⟨v, p4, v1, v2⟩ := p3 i (by omega)
          have cv := pw_cell_below HS.out.dec.bel p4
          have s3 : ((i : Int) ≥ 9) = False := by simp; omega
          have z0 : (0 : Int) ≤ (i : Int) := by omega
          have z1 : (i : Int) < 9 := by omega
          have HBLA : Aside0 (∀ W, Below wr.heap.size wr W → Sh w0 W g ng es m dp' tr') := ⟨fun W hb => HS.out.below hb⟩
          clear p3 p4 hd1 h9
          go_wp2_with fail
          go_quiet (fail)
          go_wp2_with fail
          go_quiet (fail)
          go_wp2_with fail
          refine (shift_pos' v _ (by rfl) (by omega) (by omega) g es m dp' ng tr' (by omega) (by omega) w0 _ (HBLA.out _ (by repeat (first | (with_reducible exact Below.refl _ _) | apply pw_below_drewN | apply below_drew1 | exact Below.refl _ _))) HC.out).mono ?_
          rintro e_ w'' ⟨rfl, es2, m2, dp2, tr2, hS2, hle, hge, hf⟩
          have HS2 := Aside0.mk (And.intro hS2 (And.intro hle (And.intro hge hf)))
          have b1 := HX.out
          clear hS2 hle hge hf
          go_wp2_with fail
          go_roundg (gk - 1)
          case measure => have := HM.out; omega
          case rel =>
           obtain ⟨q1, q2, q3, q4⟩ := HS2.out
           refine ⟨x - v, by go_num, by omega, by have := HM.out; omega, ⟨es2, m2, dp2, tr2, q1, by omega, by omega, fun z hz => ?_⟩⟩
           have hzd := q1.good.dig 0 z (by have := q1.pos; omega) hz
           have hz48 := q1.good.one (by have := q1.pos; omega) z hz
           have := HM.out
           by_cases he : dp2 = dp'
           ·have := q4 (by omega) he y z HY.out hz; omega
           ·omega
        ·have s3 : (dp' < 0) = False := by simp; omega
         by_cases hz : dp' = 0
         ·subst hz
          by_cases hy5 : y < 53
          ·obtain ⟨v, p4, v1, v2⟩ := p3 0 (by omega)
           have cv := pw_cell_below HS.out.dec.bel p4
           rw [Nat.add_zero] at cv
           have HBLA : Aside0 (∀ W, Below wr.heap.size wr W → Sh w0 W g ng es m 0 tr') := ⟨fun W hb => HS.out.below hb⟩
           clear p3 p4 hneg
           go_wp2_with fail
           go_quiet (fail)
           go_wp2_with fail
           go_quiet (fail)
           go_wp2_with fail
           refine (shift_pos' v _ (by rfl) (by omega) (by omega) g es m 0 ng tr' (by omega) (by omega) w0 _ (HBLA.out _ (by repeat (first | (with_reducible exact Below.refl _ _) | apply pw_below_drewN | apply below_drew1 | exact Below.refl _ _))) HC.out).mono ?_
           rintro e_ w'' ⟨rfl, es2, m2, dp2, tr2, hS2, hle, hge, hf⟩
           have HS2 := Aside0.mk (And.intro hS2 (And.intro hle (And.intro hge hf)))
           have b1 := HX.out
           clear hS2 hle hge hf
           go_wp2_with fail
           go_roundg (gk - 1)
           case measure => have := HM.out; omega
           case rel =>
            obtain ⟨q1, q2, q3, q4⟩ := HS2.out
            refine ⟨x - v, by go_num, by omega, by have := HM.out; omega, ⟨es2, m2, dp2, tr2, q1, by omega, by omega, fun z hz => ?_⟩⟩
            have hzd := q1.good.dig 0 z (by have := q1.pos; omega) hz
            have hz48 := q1.good.one (by have := q1.pos; omega) z hz
            have := HM.out
            by_cases he : dp2 = 0
            ·have := q4 (by omega) he y z HY.out hz; omega
            ·omega
          ·have s4 : (y < 53) = False := by simp; omega
           have x1 : -200000 ≤ x := by have := HX.out; omega
           have x2 : x ≤ 90000 := HX.out.1
           have i2 := pw_cell_below HS.out.dec.bel HQ.out.bias
           clear p3 hneg hy5
           obtain ⟨dp', hdp⟩ : ∃ dp' : Int, dp' = 0 := ⟨0, rfl⟩
           rw [← hdp] at cd HS HDD
           have s6 : (dp' < 0) = False := by subst hdp; simp
           have s7 : (dp' == 0) = true := by subst hdp; rfl
           clear hdp
           obtain ⟨z, hz⟩ : ∃ z : Int, x - 1 = z := ⟨_, rfl⟩
           have z1 : -200001 ≤ z := by omega
           have z2 : z ≤ 90000 := by omega
           by_cases hx : z < -1022
           ·obtain ⟨k, hk⟩ : ∃ k : Nat, -1022 - z = (k : Int) := ⟨(-1022 - z).toNat, by omega⟩
            have k1 : 1 ≤ k := by omega
            have k2 : k ≤ 300000 := by omega
            have HK := Aside0.mk (And.intro hk (And.intro k1 k2))
            have i1 := pw_cell_below HS.out.dec.bel HQ.out.bias
            clear i2
            have HBLA : Aside0 (∀ W, Below wr.heap.size wr W → Sh w0 W g ng es m dp' tr') := ⟨fun W hb => HS.out.below hb⟩
            clear hk k1 k2
            go_wp2_with fail
            refine (shift_neg' k _ (by have := HK.out; omega) (by have := HK.out; omega) (by have := HK.out; omega) g es m dp' ng tr' (by have := HDD.out; omega) (by have := HDD.out; omega) w0 _ (HBLA.out _ (by repeat (first | (with_reducible exact Below.refl _ _) | apply pw_below_drewN | apply below_drew1 | exact Below.refl _ _)))).mono ?_
            rintro e_ w'' ⟨rfl, es2, m2, dp2, tr2, hS2, hle, hge, -⟩
            have HS2 := Aside0.mk hS2
            have HD2 : Aside0 (-100000000 ≤ dp2 ∧ dp2 ≤ 1000) := ⟨by have := HDD.out; have := HK.out; omega⟩
            have j0 := pw_cell_below hS2.dec.bel HQ.out.mant
            have j1 := pw_cell_below hS2.dec.bel HQ.out.exps
            have j2 := pw_cell_below hS2.dec.bel HQ.out.bias
            clear hS2 hle hge
            go_wp2_with fail
            go_quiet (fail)
            have HBLB : Aside0 (∀ W, Below w''.heap.size w'' W → Sh w0 W g ng es2 m2 dp2 tr2) := ⟨fun W hb => HS2.out.below hb⟩
            go_wp2_with fail
            refine (shift_pos' 53 _ (by rfl) (by omega) (by omega) g es2 m2 dp2 ng tr2 (by have := HD2.out; omega) (by have := HD2.out; omega) w0 _ (HBLB.out _ (by repeat (first | (with_reducible exact Below.refl _ _) | apply pw_below_drewN | apply below_drew1 | exact Below.refl _ _))) HC.out).mono ?_
            rintro e_ w3 ⟨rfl, es3, m3, dp3, tr3, hS3, hle, hge, -⟩
            have HD3 : Aside0 (-1000000000 ≤ dp3 ∧ dp3 ≤ 1000000000) := ⟨by have := HD2.out; omega⟩
            have HS3 := Aside0.mk hS3
            clear hS3 hle hge
            go_wp2_with fail
            refine (roundedInt_any g es3 m3 dp3 ng tr3 HD3.out.1 HD3.out.2 w0 _ HS3.out).mono ?_
            rintro e_ w4 ⟨⟨N, rfl⟩, hS4⟩
            have HS4 := Aside0.mk hS4
            clear HS3
            have l0 := pw_cell_below hS4.dec.bel HQ.out.mant
            have l1 := pw_cell_below hS4.dec.bel HQ.out.exps
            have l2 := pw_cell_below hS4.dec.bel HQ.out.bias
            have HBLC : Aside0 (∀ W, Below w4.heap.size w4 W → Sh w0 W g ng es3 m3 dp3 tr3) := ⟨fun W hb => HS4.out.below hb⟩
            clear hS4 j0 j1 j2
            go_wp2_with fail
            ·go_quiet (fail)
             go_wp2_with fail
             all_goals
              go_step3
              exact ⟨⟨_, rfl⟩, FbJ.intro _ _ _ _ _ _ _ _ rfl rfl rfl rfl rfl rfl rfl (by omega) ⟨_, _, _, _, _, (HBLC.out _ (by repeat (first | (with_reducible exact Below.refl _ _) | apply pw_below_drewN | apply below_drew1 | exact Below.refl _ _))).dec⟩⟩
            all_goals
             go_step3
             exact ⟨⟨_, rfl⟩, FbJ.intro _ _ _ _ _ _ _ _ rfl rfl rfl rfl rfl rfl rfl (by omega) ⟨_, _, _, _, _, (HBLC.out _ (by repeat (first | (with_reducible exact Below.refl _ _) | apply pw_below_drewN | apply below_drew1 | exact Below.refl _ _))).dec⟩⟩
           ·have s5 : (z < -1022) = False := by simp; omega
            have HS2 := HS
            have HD2 : Aside0 (-100000000 ≤ dp' ∧ dp' ≤ 1000) := ⟨by have := HDD.out; omega⟩
            have j0 := pw_cell_below HS.out.dec.bel HQ.out.mant
            have j1 := pw_cell_below HS.out.dec.bel HQ.out.exps
            have j2 := pw_cell_below HS.out.dec.bel HQ.out.bias
            clear i2 hx
            go_wp2_with fail
            go_quiet (fail)
            have HBLB : Aside0 (∀ W, Below wr.heap.size wr W → Sh w0 W g ng es m dp' tr') := ⟨fun W hb => HS2.out.below hb⟩
            go_wp2_with fail
            ·go_step3
             exact ⟨⟨_, rfl⟩, FbJ.intro _ _ _ _ _ _ _ _ rfl rfl rfl rfl rfl rfl rfl (by omega) ⟨_, _, _, _, _, (HBLB.out _ (by repeat (first | (with_reducible exact Below.refl _ _) | apply pw_below_drewN | apply below_drew1 | exact Below.refl _ _))).dec⟩⟩
            refine (shift_pos' 53 _ (by rfl) (by omega) (by omega) g es m dp' ng tr' (by have := HD2.out; omega) (by have := HD2.out; omega) w0 _ (HBLB.out _ (by repeat (first | (with_reducible exact Below.refl _ _) | apply pw_below_drewN | apply below_drew1 | exact Below.refl _ _))) HC.out).mono ?_
            rintro e_ w3 ⟨rfl, es3, m3, dp3, tr3, hS3, hle, hge, -⟩
            have HD3 : Aside0 (-1000000000 ≤ dp3 ∧ dp3 ≤ 1000000000) := ⟨by have := HD2.out; omega⟩
            have HS3 := Aside0.mk hS3
            clear hS3 hle hge
            go_wp2_with fail
            refine (roundedInt_any g es3 m3 dp3 ng tr3 HD3.out.1 HD3.out.2 w0 _ HS3.out).mono ?_
            rintro e_ w4 ⟨⟨N, rfl⟩, hS4⟩
            have HS4 := Aside0.mk hS4
            clear HS3
            have l0 := pw_cell_below hS4.dec.bel HQ.out.mant
            have l1 := pw_cell_below hS4.dec.bel HQ.out.exps
            have l2 := pw_cell_below hS4.dec.bel HQ.out.bias
            have HBLC : Aside0 (∀ W, Below w4.heap.size w4 W → Sh w0 W g ng es3 m3 dp3 tr3) := ⟨fun W hb => HS4.out.below hb⟩
            clear hS4 j0 j1 j2
            go_wp2_with fail
            ·go_quiet (fail)
             go_wp2_with fail
             all_goals
              go_step3
              exact ⟨⟨_, rfl⟩, FbJ.intro _ _ _ _ _ _ _ _ rfl rfl rfl rfl rfl rfl rfl (by omega) ⟨_, _, _, _, _, (HBLC.out _ (by repeat (first | (with_reducible exact Below.refl _ _) | apply pw_below_drewN | apply below_drew1 | exact Below.refl _ _))).dec⟩⟩
            all_goals
             go_step3
             exact ⟨⟨_, rfl⟩, FbJ.intro _ _ _ _ _ _ _ _ rfl rfl rfl rfl rfl rfl rfl (by omega) ⟨_, _, _, _, _, (HBLC.out _ (by repeat (first | (with_reducible exact Below.refl _ _) | apply pw_below_drewN | apply below_drew1 | exact Below.refl _ _))).dec⟩⟩
         ·have s6 : (dp' == 0) = false := by rw [beq_eq_false_iff_ne]; exact hz
          have x1 : -200000 ≤ x := by have := HX.out; omega
          have x2 : x ≤ 90000 := HX.out.1
          have i2 := pw_cell_below HS.out.dec.bel HQ.out.bias
          clear p3 hneg hz
          obtain ⟨z, hz⟩ : ∃ z : Int, x - 1 = z := ⟨_, rfl⟩
          have z1 : -200001 ≤ z := by omega
          have z2 : z ≤ 90000 := by omega
          by_cases hx : z < -1022
          ·obtain ⟨k, hk⟩ : ∃ k : Nat, -1022 - z = (k : Int) := ⟨(-1022 - z).toNat, by omega⟩
           have k1 : 1 ≤ k := by omega
           have k2 : k ≤ 300000 := by omega
           have HK := Aside0.mk (And.intro hk (And.intro k1 k2))
           have i1 := pw_cell_below HS.out.dec.bel HQ.out.bias
           clear i2
           have HBLA : Aside0 (∀ W, Below wr.heap.size wr W → Sh w0 W g ng es m dp' tr') := ⟨fun W hb => HS.out.below hb⟩
           clear hk k1 k2
           go_wp2_with fail
           refine (shift_neg' k _ (by have := HK.out; omega) (by have := HK.out; omega) (by have := HK.out; omega) g es m dp' ng tr' (by have := HDD.out; omega) (by have := HDD.out; omega) w0 _ (HBLA.out _ (by repeat (first | (with_reducible exact Below.refl _ _) | apply pw_below_drewN | apply below_drew1 | exact Below.refl _ _)))).mono ?_
           rintro e_ w'' ⟨rfl, es2, m2, dp2, tr2, hS2, hle, hge, -⟩
           have HS2 := Aside0.mk hS2
           have HD2 : Aside0 (-100000000 ≤ dp2 ∧ dp2 ≤ 1000) := ⟨by have := HDD.out; have := HK.out; omega⟩
           have j0 := pw_cell_below hS2.dec.bel HQ.out.mant
           have j1 := pw_cell_below hS2.dec.bel HQ.out.exps
           have j2 := pw_cell_below hS2.dec.bel HQ.out.bias
           clear hS2 hle hge
           go_wp2_with fail
           go_quiet (fail)
           have HBLB : Aside0 (∀ W, Below w''.heap.size w'' W → Sh w0 W g ng es2 m2 dp2 tr2) := ⟨fun W hb => HS2.out.below hb⟩
           go_wp2_with fail
           refine (shift_pos' 53 _ (by rfl) (by omega) (by omega) g es2 m2 dp2 ng tr2 (by have := HD2.out; omega) (by have := HD2.out; omega) w0 _ (HBLB.out _ (by repeat (first | (with_reducible exact Below.refl _ _) | apply pw_below_drewN | apply below_drew1 | exact Below.refl _ _))) HC.out).mono ?_
           rintro e_ w3 ⟨rfl, es3, m3, dp3, tr3, hS3, hle, hge, -⟩
           have HD3 : Aside0 (-1000000000 ≤ dp3 ∧ dp3 ≤ 1000000000) := ⟨by have := HD2.out; omega⟩
           have HS3 := Aside0.mk hS3
           clear hS3 hle hge
           go_wp2_with fail
           refine (roundedInt_any g es3 m3 dp3 ng tr3 HD3.out.1 HD3.out.2 w0 _ HS3.out).mono ?_
           rintro e_ w4 ⟨⟨N, rfl⟩, hS4⟩
           have HS4 := Aside0.mk hS4
           clear HS3
           have l0 := pw_cell_below hS4.dec.bel HQ.out.mant
           have l1 := pw_cell_below hS4.dec.bel HQ.out.exps
           have l2 := pw_cell_below hS4.dec.bel HQ.out.bias
           have HBLC : Aside0 (∀ W, Below w4.heap.size w4 W → Sh w0 W g ng es3 m3 dp3 tr3) := ⟨fun W hb => HS4.out.below hb⟩
           clear hS4 j0 j1 j2
           go_wp2_with fail
           ·go_quiet (fail)
            go_wp2_with fail
            all_goals
             go_step3
             exact ⟨⟨_, rfl⟩, FbJ.intro _ _ _ _ _ _ _ _ rfl rfl rfl rfl rfl rfl rfl (by omega) ⟨_, _, _, _, _, (HBLC.out _ (by repeat (first | (with_reducible exact Below.refl _ _) | apply pw_below_drewN | apply below_drew1 | exact Below.refl _ _))).dec⟩⟩
           all_goals
            go_step3
            exact ⟨⟨_, rfl⟩, FbJ.intro _ _ _ _ _ _ _ _ rfl rfl rfl rfl rfl rfl rfl (by omega) ⟨_, _, _, _, _, (HBLC.out _ (by repeat (first | (with_reducible exact Below.refl _ _) | apply pw_below_drewN | apply below_drew1 | exact Below.refl _ _))).dec⟩⟩
          ·have s5 : (z < -1022) = False := by simp; omega
           have HS2 := HS
           have HD2 : Aside0 (-100000000 ≤ dp' ∧ dp' ≤ 1000) := ⟨by have := HDD.out; omega⟩
           have j0 := pw_cell_below HS.out.dec.bel HQ.out.mant
           have j1 := pw_cell_below HS.out.dec.bel HQ.out.exps
           have j2 := pw_cell_below HS.out.dec.bel HQ.out.bias
           clear i2 hx
           go_wp2_with fail
           go_quiet (fail)
           have HBLB : Aside0 (∀ W, Below wr.heap.size wr W → Sh w0 W g ng es m dp' tr') := ⟨fun W hb => HS2.out.below hb⟩
           go_wp2_with fail
           ·go_step3
            exact ⟨⟨_, rfl⟩, FbJ.intro _ _ _ _ _ _ _ _ rfl rfl rfl rfl rfl rfl rfl (by omega) ⟨_, _, _, _, _, (HBLB.out _ (by repeat (first | (with_reducible exact Below.refl _ _) | apply pw_below_drewN | apply below_drew1 | exact Below.refl _ _))).dec⟩⟩
           refine (shift_pos' 53 _ (by rfl) (by omega) (by omega) g es m dp' ng tr' (by have := HD2.out; omega) (by have := HD2.out; omega) w0 _ (HBLB.out _ (by repeat (first | (with_reducible exact Below.refl _ _) | apply pw_below_drewN | apply below_drew1 | exact Below.refl _ _))) HC.out).mono ?_
           rintro e_ w3 ⟨rfl, es3, m3, dp3, tr3, hS3, hle, hge, -⟩
           have HD3 : Aside0 (-1000000000 ≤ dp3 ∧ dp3 ≤ 1000000000) := ⟨by have := HD2.out; omega⟩
           have HS3 := Aside0.mk hS3
           clear hS3 hle hge
           go_wp2_with fail
           refine (roundedInt_any g es3 m3 dp3 ng tr3 HD3.out.1 HD3.out.2 w0 _ HS3.out).mono ?_
           rintro e_ w4 ⟨⟨N, rfl⟩, hS4⟩
           have HS4 := Aside0.mk hS4
           clear HS3
           have l0 := pw_cell_below hS4.dec.bel HQ.out.mant
           have l1 := pw_cell_below hS4.dec.bel HQ.out.exps
           have l2 := pw_cell_below hS4.dec.bel HQ.out.bias
           have HBLC : Aside0 (∀ W, Below w4.heap.size w4 W → Sh w0 W g ng es3 m3 dp3 tr3) := ⟨fun W hb => HS4.out.below hb⟩
           clear hS4 j0 j1 j2
           go_wp2_with fail
           ·go_quiet (fail)
            go_wp2_with fail
            all_goals
             go_step3
             exact ⟨⟨_, rfl⟩, FbJ.intro _ _ _ _ _ _ _ _ rfl rfl rfl rfl rfl rfl rfl (by omega) ⟨_, _, _, _, _, (HBLC.out _ (by repeat (first | (with_reducible exact Below.refl _ _) | apply pw_below_drewN | apply below_drew1 | exact Below.refl _ _))).dec⟩⟩
           all_goals
            go_step3
            exact ⟨⟨_, rfl⟩, FbJ.intro _ _ _ _ _ _ _ _ rfl rfl rfl rfl rfl rfl rfl (by omega) ⟨_, _, _, _, _, (HBLC.out _ (by repeat (first | (with_reducible exact Below.refl _ _) | apply pw_below_drewN | apply below_drew1 | exact Below.refl _ _))).dec⟩⟩
 ·intro l rest hf a w1 hJ
  obtain ⟨b, x, N, u, rfl, hl, hD⟩ := hJ
  replace hl : l = 0 ∨ l = 1 := by omega
  obtain ⟨es, nd', dp', ng', tr', hB⟩ := hD.out
  have HB := Aside0.mk hB
  have c3 := hB.ng_
  have hb := hB.bel
  have i0 := pw_cell_below hb hQ.mant
  have i1 := pw_cell_below hb hQ.exps
  have i2 := pw_cell_below hb hQ.bias
  clear hb hB hD hG hC hQ h d1 d2
  rcases hl with rfl | rfl
  ·obtain rfl := Option.some.inj hf
   clear hf
   cases ng'
   ·go_wp2_with fail
    go_quiet (fail)
    go_wp2_with fail
    try rw [jumps_ret]
    refine bodyPost_ret (results_list (rs := [.tmp 4, .tmp 5]) rfl (by simp) (.tmp (.tmp .nil))) rfl ?_
    exact ⟨⟨_, _, rfl⟩, below_step HB.out.bel (by repeat (first | (with_reducible exact Below.refl _ _) | apply pw_below_drewN | apply below_drew1 | exact Below.refl _ _))⟩
   ·go_wp2_with fail
    go_quiet (fail)
    go_wp2_with fail
    go_quiet (fail)
    go_wp2_with fail
    try rw [jumps_ret]
    refine bodyPost_ret (results_list (rs := [.tmp 4, .tmp 5]) rfl (by simp) (.tmp (.tmp .nil))) rfl ?_
    exact ⟨⟨_, _, rfl⟩, below_step HB.out.bel (by repeat (first | (with_reducible exact Below.refl _ _) | apply pw_below_drewN | apply below_drew1 | exact Below.refl _ _))⟩
  ·obtain rfl := Option.some.inj hf
   clear hf
   cases ng'
   ·go_wp2_with fail
    go_quiet (fail)
    go_wp2_with fail
    go_step3
    go_wp2_with fail
    go_quiet (fail)
    go_wp2_with fail
    try rw [jumps_ret]
    refine bodyPost_ret (results_list (rs := [.tmp 4, .tmp 5]) rfl (by simp) (.tmp (.tmp .nil))) rfl ?_
    exact ⟨⟨_, _, rfl⟩, below_step HB.out.bel (by repeat (first | (with_reducible exact Below.refl _ _) | apply pw_below_drewN | apply below_drew1 | exact Below.refl _ _))⟩
   ·go_wp2_with fail
    go_quiet (fail)
    go_wp2_with fail
    go_step3
    go_wp2_with fail
    go_quiet (fail)
    go_wp2_with fail
    go_quiet (fail)
    go_wp2_with fail
    try rw [jumps_ret]
    refine bodyPost_ret (results_list (rs := [.tmp 4, .tmp 5]) rfl (by simp) (.tmp (.tmp .nil))) rfl ?_
    exact ⟨⟨_, _, rfl⟩, below_step HB.out.bel (by repeat (first | (with_reducible exact Below.refl _ _) | apply pw_below_drewN | apply below_drew1 | exact Below.refl _ _))⟩
end Go.Proofs.YtjleceekccehoaaGreatDoor.Pr
end

section
set_option linter.unusedVariables false
set_option linter.unusedSimpArgs false
namespace Go.Proofs.YtjleceekccehoaaGreatDoor.Pr
open Go.RowKit Go.Proofs.YtjleceekccehoaaGreatDoor.Dec Go.Proofs.Fl Go.Proofs.YtjleceekccehoaaGreatDoorW.PrintWords Go.Proofs.YtjleceekccehoaaGreatDoorW.PrintLast Go.Proofs.YtjleceekccehoaaGreatDoorW.PrintMore

set_option maxHeartbeats 4000000 in
set_option maxRecDepth 100000 in
theorem special_any (l : List UInt8) (hT : NumT l) (hn : l ≠ []) (w : World) : Calls Tryz.prog 152 #[.string (bs l)] w fun e w' => e = .returned (.tuple #[.float .f64 0, .int .i64 0, .bool false]) ∧ w = w' := by
 have hsz := bs_size l
 obtain ⟨L, hL⟩ : ∃ L, l.length = L := ⟨_, rfl⟩
 have hL0 : 0 < L := by rw [← hL]; exact List.length_pos_iff.2 hn
 obtain ⟨z, hz, -, hz0⟩ := num_at hT hL 0 hL0
 have hz1 := hz0 rfl
 rw [hL] at hsz
 have t1 : ((L : Int) == 0) = false := by rw [beq_eq_false_iff_ne]; omega
 have t2 : (0 : Int) < (L : Int) := by omega
 have t3 : ((z : Int) == 43) = false := by rw [beq_eq_false_iff_ne]; omega
 have t4 : ((z : Int) == 45) = false := by rw [beq_eq_false_iff_ne]; omega
 have t5 : ((z : Int) == 105) = false := by rw [beq_eq_false_iff_ne]; omega
 have t6 : ((z : Int) == 73) = false := by rw [beq_eq_false_iff_ne]; omega
 have t7 : ((z : Int) == 110) = false := by rw [beq_eq_false_iff_ne]; omega
 have t8 : ((z : Int) == 78) = false := by rw [beq_eq_false_iff_ne]; omega
 clear hT hn hL hz0 hz1
 go_enter Tryz.func152, Tryz.ntmps152
 go_wp2_with fail
 refine bodyPost_ret (results_list (rs := [.tmp 2, .tmp 3, .tmp 4]) rfl (by simp) (.tmp (.tmp (.tmp .nil)))) rfl ?_
 exact ⟨by first | rfl | simp, rfl⟩
theorem goodZero : GoodD (List.replicate 800 (0 : Int)) 0 := ⟨List.length_replicate .., by omega, fun i x h => by omega, fun h => by omega⟩
/-- What ParseFloat asks. -/
structure LaidN (w : World) : Prop where
 f : LaidF w
 c : LaidC w
 q : LaidQ w
 t : LaidT w
 opt : w.cell? ⟨2, 0, none⟩ = some (.bool true)
theorem LaidN.below {w w' : World} (h : LaidN w) (hb : Below w.heap.size w w') : LaidN w' := ⟨h.f.below hb, h.c.below hb, h.q.below hb, h.t.below hb, pw_cell_below hb h.opt⟩
theorem take_get {l : List UInt8} {i k : Nat} {c : UInt8} (h : (l.take i)[k]? = some c) : l[k]? = some c := by
 rw [List.getElem?_take] at h
 split at h
 ·exact h
 ·cases h
theorem NumT.take {l : List UInt8} (h : NumT l) (i : Nat) : NumT (l.take i) := by
 have hl := h.len
 exact ⟨by rw [List.length_take]; omega, fun k c hc => h.all k c (take_get hc), fun c hc => h.fst c (take_get hc)⟩
theorem zero_dec : Tryz.zeroCells153 = decCells (List.replicate 800 0) 0 0 false false := by kernel_rfl
theorem setW_new {w0 w : World} (h : Below w0.heap.size w0 w) : SetW w0 (w.alloc (.cells Tryz.zeroCells153 153)) w.heap.size 0 := by
 rw [zero_dec]
 exact ⟨List.replicate 800 0, 0, 0, false, ⟨heap_alloc_new w _, List.length_replicate .., h.size, below_alloc h _⟩, goodZero, by omega, by omega, by omega⟩
def AtE (e : Ending) : Prop := ∃ (x : Nat) (n : Int) (v : Value), e = .returned (.tuple #[.float .f64 x, .int .i64 n, v]) ∧ ErrV v
set_option maxHeartbeats 4000000 in
set_option maxRecDepth 100000 in
theorem atof64_any (l : List UInt8) (hT : NumT l) (hn : l ≠ []) (w : World) (hN : LaidN w) : Calls Tryz.prog 123 #[.string (bs l)] w fun e w' => AtE e ∧ Below w.heap.size w w' := by
 have HN := Aside0.mk hN
 have k1 := frombits2_run
 have hsz := bs_size l
 have hln := hT.len
 have HT := Aside0.mk hT
 have HNE := Aside0.mk hn
 clear hN hT hn
 go_enter Tryz.func123, Tryz.ntmps123
 go_wp2_with fail
 refine (special_any l HT.out HNE.out _).mono ?_
 rintro e_ w' ⟨rfl, rfl⟩
 go_wp2_with fail
 refine (readFloat_any l HT.out HNE.out _).mono ?_
 rintro e_ w1 ⟨⟨M, p, tr, ok, i, rfl, hM0, hM1, hi⟩, hb1⟩
 have HB := Aside0.mk hb1
 have HI := Aside0.mk hi
 have cO := (HN.out.below hb1).opt
 clear hb1 hi
 cases ok
 ·go_wp2_with fail
  refine bodyPost_ret (results_list (rs := [.tmp 2, .tmp 3, .tmp 4]) rfl (by simp) (.tmp (.tmp (.tmp .nil)))) rfl ?_
  exact ⟨⟨_, _, _, rfl, Or.inr (Or.inr rfl)⟩, HB.out⟩
 have g0 : b2u false = 0 := rfl
 by_cases hz : M = 0
 ·subst hz
  go_wp2_with (first | (go_at_call 161; refine (b2u_any _ _).mono ?_; rw [g0]; rintro e_ w' ⟨rfl, ⟨m2, rfl⟩⟩))
  refine bodyPost_ret (results_list (rs := [.tmp 2, .tmp 3, .tmp 4]) rfl (by simp) (.tmp (.tmp (.tmp .nil)))) rfl ?_
  exact ⟨⟨_, _, _, rfl, Or.inl rfl⟩, below_step HB.out (by repeat (first | (with_reducible first | exact Below.refl _ _ | apply pw_below_drewN | apply below_drew1 | apply below_alloc) | exact Below.refl _ _))⟩
 have tz : (M == 0) = false := by rw [beq_eq_false_iff_ne]; exact hz
 clear hz
 by_cases hp : p > 310
 ·go_wp2_with (first | (go_at_call 161; refine (b2u_any _ _).mono ?_; rw [g0]; rintro e_ w' ⟨rfl, ⟨m2, rfl⟩⟩))
  refine bodyPost_ret (results_list (rs := [.tmp 2, .tmp 3, .tmp 4]) rfl (by simp) (.tmp (.tmp (.tmp .nil)))) rfl ?_
  exact ⟨⟨_, _, _, rfl, Or.inr (Or.inl rfl)⟩, below_step HB.out (by repeat (first | (with_reducible first | exact Below.refl _ _ | apply pw_below_drewN | apply below_drew1 | apply below_alloc) | exact Below.refl _ _))⟩
 have tp : (p > 310) = False := eq_false hp
 by_cases hq : p < -345
 ·go_wp2_with (first | (go_at_call 161; refine (b2u_any _ _).mono ?_; rw [g0]; rintro e_ w' ⟨rfl, ⟨m2, rfl⟩⟩))
  refine bodyPost_ret (results_list (rs := [.tmp 2, .tmp 3, .tmp 4]) rfl (by simp) (.tmp (.tmp (.tmp .nil)))) rfl ?_
  exact ⟨⟨_, _, _, rfl, Or.inl rfl⟩, below_step HB.out (by repeat (first | (with_reducible first | exact Below.refl _ _ | apply pw_below_drewN | apply below_drew1 | apply below_alloc) | exact Below.refl _ _))⟩
 have tq : (p < -345) = False := eq_false hq
 have HP := Aside0.mk (And.intro (show -345 ≤ p by omega) (show p ≤ 310 by omega))
 clear hp hq
 cases tr
 ·go_wp2_with (first | (go_at_call 161; refine (b2u_any _ _).mono ?_; rw [g0]; rintro e_ w' ⟨rfl, ⟨m2, rfl⟩⟩))
  refine (exact_any M p hM0 hM1 (by have := HP.out; omega) (by have := HP.out; omega) _ ((HN.out.below (below_step HB.out (by repeat (first | (with_reducible first | exact Below.refl _ _ | apply pw_below_drewN | apply below_drew1 | apply below_alloc) | exact Below.refl _ _)))).t)).mono ?_
  rintro e_ w2 ⟨⟨x, ok2, rfl⟩, hb2⟩
  have HB2 := Aside0.mk (below_step HB.out (below_step (by repeat (first | (with_reducible first | exact Below.refl _ _ | apply pw_below_drewN | apply below_drew1 | apply below_alloc) | exact Below.refl _ _)) hb2))
  clear HB hb2
  cases ok2
  ·go_wp2_with fail
   refine (parseFloat64_any M p 0 hM0 hM1 HP.out.1 HP.out.2 _ ((HN.out.below HB2.out).f)).mono ?_
   rintro e_ w3 ⟨⟨x3, v3, rfl, hv3⟩, hb3⟩
   have HB3 := Aside0.mk (below_step HB2.out hb3)
   have HV := Aside0.mk hv3
   clear HB2 hb3 hv3
   go_wp2_with fail
   refine bodyPost_ret (results_list (rs := [.tmp 2, .tmp 3, .tmp 4]) rfl (by simp) (.tmp (.tmp (.tmp .nil)))) rfl ?_
   exact ⟨⟨_, _, _, rfl, HV.out⟩, HB3.out⟩
  ·go_wp2_with fail
   refine bodyPost_ret (results_list (rs := [.tmp 2, .tmp 3, .tmp 4]) rfl (by simp) (.tmp (.tmp (.tmp .nil)))) rfl ?_
   exact ⟨⟨_, _, _, rfl, Or.inl rfl⟩, HB2.out⟩
 ·go_wp2_with (first | (go_at_call 161; refine (b2u_any _ _).mono ?_; rw [g0]; rintro e_ w' ⟨rfl, ⟨m2, rfl⟩⟩))
  refine (parseFloat64_any M p 0 hM0 hM1 HP.out.1 HP.out.2 _ ((HN.out.below (below_step HB.out (by repeat (first | (with_reducible first | exact Below.refl _ _ | apply pw_below_drewN | apply below_drew1 | apply below_alloc) | exact Below.refl _ _)))).f)).mono ?_
  rintro e_ w3 ⟨⟨x3, v3, rfl, hv3⟩, hb3⟩
  have HB3 := Aside0.mk (below_step HB.out (below_step (by repeat (first | (with_reducible first | exact Below.refl _ _ | apply pw_below_drewN | apply below_drew1 | apply below_alloc) | exact Below.refl _ _)) hb3))
  have HV := Aside0.mk hv3
  clear HB hb3 hv3
  have hM2 := u64_rng (M + 1)
  have HM2 := Aside0.mk hM2
  have hi0 : (0 : Int) ≤ (i : Int) := by omega
  have hi1 : (i : Int) ≤ (l.length : Int) := by have := HI.out; omega
  clear hM2
  go_wp2_with fail
  refine (parseFloat64_any _ p 0 (by first | exact HM2.out.1 | omega) (by first | exact HM2.out.2 | omega) HP.out.1 HP.out.2 _ ((HN.out.below HB3.out).f)).mono ?_
  rintro e_ w4 ⟨⟨x4, v4, rfl, hv4⟩, hb4⟩
  have HB4 := Aside0.mk (below_step HB3.out hb4)
  clear HB3 hb4 hv4
  go_wp2_with fail
  ·refine bodyPost_ret (results_list (rs := [.tmp 2, .tmp 3, .tmp 4]) rfl (by simp) (.tmp (.tmp (.tmp .nil)))) rfl ?_
   exact ⟨⟨_, _, _, rfl, HV.out⟩, HB4.out⟩
  have hx0 : (bs l).extract 0 i = bs (l.take i) := by rw [Go.Lib.Pa.extract_upto]; unfold bs; simp
  rw [hx0]
  refine (set_any (l.take i) (HT.out.take i) _ w _ (setW_new HB4.out)).mono ?_
  rintro e_ w5 ⟨⟨b, rfl⟩, hS⟩
  obtain ⟨es, m, dp, tr', hD, hG, hd1, hd2⟩ := hS
  have HD := Aside0.mk hD
  have HG := Aside0.mk (And.intro hG (And.intro hd1 hd2))
  clear hD hG hd1 hd2 hx0
  cases b
  ·go_wp2_with fail
   refine bodyPost_ret (results_list (rs := [.tmp 2, .tmp 3, .tmp 4]) rfl (by simp) (.tmp (.tmp (.tmp .nil)))) rfl ?_
   exact ⟨⟨_, _, _, rfl, Or.inr (Or.inr rfl)⟩, HD.out.bel⟩
  ·go_wp2_with fail
   refine (floatBits_any _ es m dp false tr' (by have := HG.out.2; omega) (by have := HG.out.2; omega) w _ HD.out HG.out.1 HN.out.c HN.out.q).mono ?_
   rintro e_ w6 ⟨⟨N, b2, rfl⟩, hb6⟩
   have HB6 := Aside0.mk hb6
   clear hb6
   cases b2
   all_goals
    go_wp2_with fail
    refine bodyPost_ret (results_list (rs := [.tmp 2, .tmp 3, .tmp 4]) rfl (by simp) (.tmp (.tmp (.tmp .nil)))) rfl ?_
    exact ⟨⟨_, _, _, rfl, by first | exact Or.inl rfl | exact Or.inr (Or.inl rfl)⟩, HB6.out⟩
end Go.Proofs.YtjleceekccehoaaGreatDoor.Pr
end
