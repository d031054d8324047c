/- Texts of this session, cut down to what one claim needs and joined: FfBits2. -/
import Derived.Test.YtjleceekccehoaaGreatDoorQGJ8
set_option linter.unusedVariables false
set_option linter.unusedSimpArgs false
namespace Go.Proofs.YtjleceekccehoaaGreatDoor.Pr
open Go.RowKit Go.Proofs.YtjleceekccehoaaGreatDoor.Dec Go.Proofs.YtjleceekccehoaaGreatDoorW.PrintWords Go.Proofs.YtjleceekccehoaaGreatDoorW.PrintLast Go.Proofs.YtjleceekccehoaaGreatDoorW.PrintMore
attribute [local go_sem] jumps_goto jumps_normal jumps_exit jumps_ret

set_option maxHeartbeats 4000000 in
set_option maxRecDepth 100000 in
theorem floatBits_any (g : Nat) (ds : List Int) (n : Nat) (dp : Int) (ng tr : Bool) (d1 : -1000000 ≤ dp) (d2 : dp ≤ 1000000) (w0 w : World) (h : DecB w0 w g ds n dp ng tr) (hG : GoodD ds n) (hC : LaidC w0) (hQ : LaidQ w0) :
    Calls Tryz.prog 160 #[.pointer (some ⟨g, 0, none⟩), .pointer (some ⟨13, 0, none⟩)] w fun e w' => IsNB e ∧ Below w0.heap.size w0 w' := by
  go_enter Tryz.func160, Tryz.ntmps160
  go_wp2_with fail
  refine wp_scope_fwd (FbJ w0 g) (fun l => l) ?_ ?_
  · have HB := Aside0.mk h
    have HG := Aside0.mk hG
    have HC := Aside0.mk hC
    have HQ := Aside0.mk hQ
    have cn := h.nd_
    have cd := h.dp_
    have i2 := pw_cell_below h.bel hQ.bias
    clear h hG hC hQ
    by_cases hn : n = 0
    · subst hn
      have t1 : ((((0 : Nat) : Int)) == 0) = true := rfl
      go_wp2_with fail
      go_step3
      exact ⟨⟨_, rfl⟩, FbJ.intro _ _ _ _ _ _ _ _ rfl rfl rfl rfl rfl rfl rfl (by omega) ⟨_, _, _, _, _, HB.out⟩⟩
    · have t1 : (((n : Int)) == 0) = false := by rw [beq_eq_false_iff_ne]; omega
      have hn1 : 1 ≤ n := by omega
      have HN := Aside0.mk hn1
      clear hn hn1
      by_cases hp : dp > 310
      · go_wp2_with fail
        go_step3
        exact ⟨⟨_, rfl⟩, FbJ.intro _ _ _ _ _ _ _ _ rfl rfl rfl rfl rfl rfl rfl (by omega) ⟨_, _, _, _, _, HB.out⟩⟩
      · have s1 : (dp > 310) = False := by simp; omega
        by_cases hm : dp < -330
        · go_wp2_with fail
          go_step3
          exact ⟨⟨_, rfl⟩, FbJ.intro _ _ _ _ _ _ _ _ rfl rfl rfl rfl rfl rfl rfl (by omega) ⟨_, _, _, _, _, HB.out⟩⟩
        · have s2 : (dp < -330) = False := by simp; omega
          have HDP := Aside0.mk (And.intro hp hm)
          clear hp hm
          go_wp2_with fail
          go_loopg [6] 3120 (fun q v6 wr => ∃ x : Int, v6 = .int .i64 x ∧ 0 ≤ x ∧ x ≤ 27 * (3120 - (q : Int)) ∧ Aside0 (∃ es m dp' tr', Sh w0 wr g ng es m dp' tr' ∧ dp' ≤ 310 ∧ -600 ≤ dp' ∧ ∀ y, es[0]? = some y → 10 * dp' + (y - 48) ≤ q))
          case atStart => exact ⟨0, rfl, by omega, by omega, ⟨ds, n, dp, tr, ⟨HB.out, HG.out, HN.out⟩, by have := HDP.out; omega, by have := HDP.out; omega, fun y hy => by have := HG.out.dig 0 y (by have := HN.out; omega) hy; have := HDP.out; omega⟩⟩
          case round =>
            clear cn cd t1 s1 s2
            obtain ⟨x, h6, hx1, hx2, HH⟩ := hrel
            obtain ⟨es, m, dp', tr', hS, hd1, hd2, hmm⟩ := HH.out
            have HS := Aside0.mk hS
            obtain ⟨y, hy⟩ : ∃ y, es[0]? = some y := ⟨es[0]'(by have := hS.good.len; omega), List.getElem?_eq_getElem (by have := hS.good.len; omega)⟩
            have hyd := hS.good.dig 0 y (by have := hS.pos; omega) hy
            have hy48 := hS.good.one (by have := hS.pos; omega) y hy
            have hm := hmm y hy
            have HM := Aside0.mk (And.intro hyd (And.intro hy48 hm))
            have HY := Aside0.mk hy
            have cd := hS.dec.dp_
            obtain ⟨pb, po, pc, p1, p2, p3⟩ := HQ.out.tab
            have cp := pw_cell_below hS.dec.bel p1
            have HDD := Aside0.mk (And.intro hd1 hd2)
            have HX := Aside0.mk (And.intro hx1 hx2)
            clear HH hS hmm hy hyd hy48 hm p1
            subst h6
            by_cases hp : dp' > 0
            · by_cases h9 : dp' ≥ 9
              · clear hd2
                have HBL : ∀ W, Below wr.heap.size wr W → Sh w0 W g ng es m dp' tr' := fun W hb => HS.out.below hb
                have HBLA := Aside0.mk HBL
                clear HBL p3
                go_wp2_with fail
                go_quiet (fail)
                go_wp2_with fail
                refine (shift_neg' 27 _ (by rfl) (by omega) (by omega) g es m dp' ng tr' (by omega) (by omega) w0 _ (HBLA.out _ (by repeat (first | (with_reducible exact Below.refl _ _) | apply pw_below_drewN | apply below_drew1 | exact Below.refl _ _)))).mono ?_
                rintro e_ w'' ⟨rfl, es2, m2, dp2, tr2, hS2, hle, hge, hf⟩
                have HS2 := Aside0.mk (And.intro hS2 (And.intro hle (And.intro hge hf)))
                have b1 := HX.out
                clear hS2 hle hge hf
                go_wp2_with fail
                go_roundg (gk - 1)
                case measure => have := HM.out; omega
                case rel =>
                  obtain ⟨q1, q2, q3, q4⟩ := HS2.out
                  refine ⟨x + 27, by go_num, by omega, by have := HM.out; omega, ⟨es2, m2, dp2, tr2, q1, by omega, by omega, fun z hz => ?_⟩⟩
                  have hzd := q1.good.dig 0 z (by have := q1.pos; omega) hz
                  have := HM.out
                  by_cases he : dp2 = dp'
                  · have := q4 (by omega) he y z HY.out hz; omega
                  · omega
              · obtain ⟨i, rfl⟩ : ∃ i : Nat, dp' = i := ⟨dp'.toNat, by omega⟩
                obtain ⟨v, p4, v1, v2⟩ := p3 i (by omega)
                have cv := pw_cell_below HS.out.dec.bel p4
                have s3 : ((i : Int) ≥ 9) = False := by simp; omega
                have z0 : (0 : Int) ≤ (i : Int) := by omega
                have z1 : (i : Int) < 9 := by omega
                have HBL : ∀ W, Below wr.heap.size wr W → Sh w0 W g ng es m i tr' := fun W hb => HS.out.below hb
                have HBLA := Aside0.mk HBL
                clear HBL p3 p4 hd2
                go_wp2_with fail
                go_quiet (fail)
                go_wp2_with fail
                go_quiet (fail)
                go_wp2_with fail
                refine (shift_neg' v _ (by rfl) (by omega) (by omega) g es m i ng tr' (by omega) (by omega) w0 _ (HBLA.out _ (by repeat (first | (with_reducible exact Below.refl _ _) | apply pw_below_drewN | apply below_drew1 | exact Below.refl _ _)))).mono ?_
                rintro e_ w'' ⟨rfl, es2, m2, dp2, tr2, hS2, hle, hge, hf⟩
                have HS2 := Aside0.mk (And.intro hS2 (And.intro hle (And.intro hge hf)))
                have b1 := HX.out
                clear hS2 hle hge hf
                go_wp2_with fail
                go_roundg (gk - 1)
                case measure => have := HM.out; omega
                case rel =>
                  obtain ⟨q1, q2, q3, q4⟩ := HS2.out
                  refine ⟨x + v, by go_num, by omega, by have := HM.out; omega, ⟨es2, m2, dp2, tr2, q1, by omega, by omega, fun z hz => ?_⟩⟩
                  have hzd := q1.good.dig 0 z (by have := q1.pos; omega) hz
                  have := HM.out
                  by_cases he : dp2 = (i : Int)
                  · have := q4 (by omega) he y z HY.out hz; omega
                  · omega
            · have s3 : (dp' > 0) = False := by simp; omega
              have HP0 := Aside0.mk hp
              clear hp p3 hd2
              have b1 := HX.out
              go_wp2_with fail
              go_loopg [6] 6040 (fun q v6 wr => ∃ x : Int, v6 = .int .i64 x ∧ x ≤ 90000 ∧ -(27 * (6040 - (q : Int))) ≤ x ∧ Aside0 (∃ es m dp' tr', Sh w0 wr g ng es m dp' tr' ∧ dp' ≤ 600 ∧ -600 ≤ dp' ∧ ∀ y, es[0]? = some y → -10 * dp' - (y - 48) + 20 ≤ q))
              case atStart => exact ⟨x, rfl, by omega, by omega, ⟨es, m, dp', tr', HS.out, by have := HDD.out; omega, by have := HDD.out; omega, fun z hz => by have := HM.out; have := HDD.out; have h1 := HY.out; rw [hz] at h1; injection h1 with h1; omega⟩⟩
              case round =>
                clear HS HM HY cd cp HX b1 HDD HP0 s3
                obtain ⟨x, h6, hx1, hx2, HH⟩ := hrel
                obtain ⟨es, m, dp', tr', hS, hd1, hd2, hmm⟩ := HH.out
                have HS := Aside0.mk hS
                obtain ⟨y, hy⟩ : ∃ y, es[0]? = some y := ⟨es[0]'(by have := hS.good.len; omega), List.getElem?_eq_getElem (by have := hS.good.len; omega)⟩
                have hyd := hS.good.dig 0 y (by have := hS.pos; omega) hy
                have hy48 := hS.good.one (by have := hS.pos; omega) y hy
                have hm := hmm y hy
                have HM := Aside0.mk (And.intro hyd (And.intro hy48 hm))
                have HY := Aside0.mk hy
                have cd := hS.dec.dp_
                have cy := hS.dec.dig 0 y hy
                obtain ⟨pb, po, pc, p1, p2, p3⟩ := HQ.out.tab
                have cp := pw_cell_below hS.dec.bel p1
                have HDD := Aside0.mk (And.intro hd1 hd2)
                have HX := Aside0.mk (And.intro hx1 hx2)
                clear HH hS hmm hy hy48 hm p1 hx1 hx2
                subst h6
                by_cases hneg : dp' < 0
                · clear hyd
                  by_cases h9 : -dp' ≥ 9
                  · clear hd1 p3
                    have HBLA : Aside0 (∀ W, Below wr.heap.size wr W → Sh w0 W g ng es m dp' tr') := ⟨fun W hb => HS.out.below hb⟩
                    go_wp2_with fail
                    go_quiet (fail)
                    go_wp2_with fail
                    refine (shift_pos' 27 _ (by rfl) (by omega) (by omega) g es m dp' ng tr' (by omega) (by omega) w0 _ (HBLA.out _ (by repeat (first | (with_reducible exact Below.refl _ _) | apply pw_below_drewN | apply below_drew1 | exact Below.refl _ _))) HC.out).mono ?_
                    rintro e_ w'' ⟨rfl, es2, m2, dp2, tr2, hS2, hle, hge, hf⟩
                    have HS2 := Aside0.mk (And.intro hS2 (And.intro hle (And.intro hge hf)))
                    have b1 := HX.out
                    clear hS2 hle hge hf
                    go_wp2_with fail
                    go_roundg (gk - 1)
                    case measure => have := HM.out; omega
                    case rel =>
                      obtain ⟨q1, q2, q3, q4⟩ := HS2.out
                      refine ⟨x - 27, by go_num, by omega, by have := HM.out; omega, ⟨es2, m2, dp2, tr2, q1, by omega, by omega, fun z hz => ?_⟩⟩
                      have hzd := q1.good.dig 0 z (by have := q1.pos; omega) hz
                      have hz48 := q1.good.one (by have := q1.pos; omega) z hz
                      have := HM.out
                      by_cases he : dp2 = dp'
                      · have := q4 (by omega) he y z HY.out hz; omega
                      · omega
                  · obtain ⟨i, hi⟩ : ∃ i : Nat, -dp' = i := ⟨(-dp').toNat, by omega⟩
                    obtain ⟨v, p4, v1, v2⟩ := p3 i (by omega)
                    have cv := pw_cell_below HS.out.dec.bel p4
                    have s3 : ((i : Int) ≥ 9) = False := by simp; omega
                    have z0 : (0 : Int) ≤ (i : Int) := by omega
                    have z1 : (i : Int) < 9 := by omega
                    have HBLA : Aside0 (∀ W, Below wr.heap.size wr W → Sh w0 W g ng es m dp' tr') := ⟨fun W hb => HS.out.below hb⟩
                    clear p3 p4 hd1 h9
                    go_wp2_with fail
                    go_quiet (fail)
                    go_wp2_with fail
                    go_quiet (fail)
                    go_wp2_with fail
                    refine (shift_pos' v _ (by rfl) (by omega) (by omega) g es m dp' ng tr' (by omega) (by omega) w0 _ (HBLA.out _ (by repeat (first | (with_reducible exact Below.refl _ _) | apply pw_below_drewN | apply below_drew1 | exact Below.refl _ _))) HC.out).mono ?_
                    rintro e_ w'' ⟨rfl, es2, m2, dp2, tr2, hS2, hle, hge, hf⟩
                    have HS2 := Aside0.mk (And.intro hS2 (And.intro hle (And.intro hge hf)))
                    have b1 := HX.out
                    clear hS2 hle hge hf
                    go_wp2_with fail
                    go_roundg (gk - 1)
                    case measure => have := HM.out; omega
                    case rel =>
                      obtain ⟨q1, q2, q3, q4⟩ := HS2.out
                      refine ⟨x - v, by go_num, by omega, by have := HM.out; omega, ⟨es2, m2, dp2, tr2, q1, by omega, by omega, fun z hz => ?_⟩⟩
                      have hzd := q1.good.dig 0 z (by have := q1.pos; omega) hz
                      have hz48 := q1.good.one (by have := q1.pos; omega) z hz
                      have := HM.out
                      by_cases he : dp2 = dp'
                      · have := q4 (by omega) he y z HY.out hz; omega
                      · omega
                · have s3 : (dp' < 0) = False := by simp; omega
                  by_cases hz : dp' = 0
                  · subst hz
                    by_cases hy5 : y < 53
                    · obtain ⟨v, p4, v1, v2⟩ := p3 0 (by omega)
                      have cv := pw_cell_below HS.out.dec.bel p4
                      rw [Nat.add_zero] at cv
                      have HBLA : Aside0 (∀ W, Below wr.heap.size wr W → Sh w0 W g ng es m 0 tr') := ⟨fun W hb => HS.out.below hb⟩
                      clear p3 p4 hneg
                      go_wp2_with fail
                      go_quiet (fail)
                      go_wp2_with fail
                      go_quiet (fail)
                      go_wp2_with fail
                      refine (shift_pos' v _ (by rfl) (by omega) (by omega) g es m 0 ng tr' (by omega) (by omega) w0 _ (HBLA.out _ (by repeat (first | (with_reducible exact Below.refl _ _) | apply pw_below_drewN | apply below_drew1 | exact Below.refl _ _))) HC.out).mono ?_
                      rintro e_ w'' ⟨rfl, es2, m2, dp2, tr2, hS2, hle, hge, hf⟩
                      have HS2 := Aside0.mk (And.intro hS2 (And.intro hle (And.intro hge hf)))
                      have b1 := HX.out
                      clear hS2 hle hge hf
                      go_wp2_with fail
                      go_roundg (gk - 1)
                      case measure => have := HM.out; omega
                      case rel =>
                        obtain ⟨q1, q2, q3, q4⟩ := HS2.out
                        refine ⟨x - v, by go_num, by omega, by have := HM.out; omega, ⟨es2, m2, dp2, tr2, q1, by omega, by omega, fun z hz => ?_⟩⟩
                        have hzd := q1.good.dig 0 z (by have := q1.pos; omega) hz
                        have hz48 := q1.good.one (by have := q1.pos; omega) z hz
                        have := HM.out
                        by_cases he : dp2 = 0
                        · have := q4 (by omega) he y z HY.out hz; omega
                        · omega
                    · have s4 : (y < 53) = False := by simp; omega
                      have x1 : -200000 ≤ x := by have := HX.out; omega
                      have x2 : x ≤ 90000 := HX.out.1
                      have i2 := pw_cell_below HS.out.dec.bel HQ.out.bias
                      clear p3 hneg hy5
                      obtain ⟨dp', hdp⟩ : ∃ dp' : Int, dp' = 0 := ⟨0, rfl⟩
                      rw [← hdp] at cd HS HDD
                      have s6 : (dp' < 0) = False := by subst hdp; simp
                      have s7 : (dp' == 0) = true := by subst hdp; rfl
                      clear hdp
                      obtain ⟨z, hz⟩ : ∃ z : Int, x - 1 = z := ⟨_, rfl⟩
                      have z1 : -200001 ≤ z := by omega
                      have z2 : z ≤ 90000 := by omega
                      by_cases hx : z < -1022
                      · obtain ⟨k, hk⟩ : ∃ k : Nat, -1022 - z = (k : Int) := ⟨(-1022 - z).toNat, by omega⟩
                        have k1 : 1 ≤ k := by omega
                        have k2 : k ≤ 300000 := by omega
                        have HK := Aside0.mk (And.intro hk (And.intro k1 k2))
                        have i1 := pw_cell_below HS.out.dec.bel HQ.out.bias
                        clear i2
                        have HBLA : Aside0 (∀ W, Below wr.heap.size wr W → Sh w0 W g ng es m dp' tr') := ⟨fun W hb => HS.out.below hb⟩
                        clear hk k1 k2
                        go_wp2_with fail
                        refine (shift_neg' k _ (by have := HK.out; omega) (by have := HK.out; omega) (by have := HK.out; omega) g es m dp' ng tr' (by have := HDD.out; omega) (by have := HDD.out; omega) w0 _ (HBLA.out _ (by repeat (first | (with_reducible exact Below.refl _ _) | apply pw_below_drewN | apply below_drew1 | exact Below.refl _ _)))).mono ?_
                        rintro e_ w'' ⟨rfl, es2, m2, dp2, tr2, hS2, hle, hge, -⟩
                        have HS2 := Aside0.mk hS2
                        have HD2 : Aside0 (-100000000 ≤ dp2 ∧ dp2 ≤ 1000) := ⟨by have := HDD.out; have := HK.out; omega⟩
                        have j0 := pw_cell_below hS2.dec.bel HQ.out.mant
                        have j1 := pw_cell_below hS2.dec.bel HQ.out.exps
                        have j2 := pw_cell_below hS2.dec.bel HQ.out.bias
                        clear hS2 hle hge
                        go_wp2_with fail
                        go_quiet (fail)
                        have HBLB : Aside0 (∀ W, Below w''.heap.size w'' W → Sh w0 W g ng es2 m2 dp2 tr2) := ⟨fun W hb => HS2.out.below hb⟩
                        go_wp2_with fail
                        refine (shift_pos' 53 _ (by rfl) (by omega) (by omega) g es2 m2 dp2 ng tr2 (by have := HD2.out; omega) (by have := HD2.out; omega) w0 _ (HBLB.out _ (by repeat (first | (with_reducible exact Below.refl _ _) | apply pw_below_drewN | apply below_drew1 | exact Below.refl _ _))) HC.out).mono ?_
                        rintro e_ w3 ⟨rfl, es3, m3, dp3, tr3, hS3, hle, hge, -⟩
                        have HD3 : Aside0 (-1000000000 ≤ dp3 ∧ dp3 ≤ 1000000000) := ⟨by have := HD2.out; omega⟩
                        have HS3 := Aside0.mk hS3
                        clear hS3 hle hge
                        go_wp2_with fail
                        refine (roundedInt_any g es3 m3 dp3 ng tr3 HD3.out.1 HD3.out.2 w0 _ HS3.out).mono ?_
                        rintro e_ w4 ⟨⟨N, rfl⟩, hS4⟩
                        have HS4 := Aside0.mk hS4
                        clear HS3
                        have l0 := pw_cell_below hS4.dec.bel HQ.out.mant
                        have l1 := pw_cell_below hS4.dec.bel HQ.out.exps
                        have l2 := pw_cell_below hS4.dec.bel HQ.out.bias
                        have HBLC : Aside0 (∀ W, Below w4.heap.size w4 W → Sh w0 W g ng es3 m3 dp3 tr3) := ⟨fun W hb => HS4.out.below hb⟩
                        clear hS4 j0 j1 j2
                        go_wp2_with fail
                        · go_quiet (fail)
                          go_wp2_with fail
                          all_goals
                            go_step3
                            exact ⟨⟨_, rfl⟩, FbJ.intro _ _ _ _ _ _ _ _ rfl rfl rfl rfl rfl rfl rfl (by omega) ⟨_, _, _, _, _, (HBLC.out _ (by repeat (first | (with_reducible exact Below.refl _ _) | apply pw_below_drewN | apply below_drew1 | exact Below.refl _ _))).dec⟩⟩
                        all_goals
                          go_step3
                          exact ⟨⟨_, rfl⟩, FbJ.intro _ _ _ _ _ _ _ _ rfl rfl rfl rfl rfl rfl rfl (by omega) ⟨_, _, _, _, _, (HBLC.out _ (by repeat (first | (with_reducible exact Below.refl _ _) | apply pw_below_drewN | apply below_drew1 | exact Below.refl _ _))).dec⟩⟩
                      · have s5 : (z < -1022) = False := by simp; omega
                        have HS2 := HS
                        have HD2 : Aside0 (-100000000 ≤ dp' ∧ dp' ≤ 1000) := ⟨by have := HDD.out; omega⟩
                        have j0 := pw_cell_below HS.out.dec.bel HQ.out.mant
                        have j1 := pw_cell_below HS.out.dec.bel HQ.out.exps
                        have j2 := pw_cell_below HS.out.dec.bel HQ.out.bias
                        clear i2 hx
                        go_wp2_with fail
                        go_quiet (fail)
                        have HBLB : Aside0 (∀ W, Below wr.heap.size wr W → Sh w0 W g ng es m dp' tr') := ⟨fun W hb => HS2.out.below hb⟩
                        go_wp2_with fail
                        · go_step3
                          exact ⟨⟨_, rfl⟩, FbJ.intro _ _ _ _ _ _ _ _ rfl rfl rfl rfl rfl rfl rfl (by omega) ⟨_, _, _, _, _, (HBLB.out _ (by repeat (first | (with_reducible exact Below.refl _ _) | apply pw_below_drewN | apply below_drew1 | exact Below.refl _ _))).dec⟩⟩
                        refine (shift_pos' 53 _ (by rfl) (by omega) (by omega) g es m dp' ng tr' (by have := HD2.out; omega) (by have := HD2.out; omega) w0 _ (HBLB.out _ (by repeat (first | (with_reducible exact Below.refl _ _) | apply pw_below_drewN | apply below_drew1 | exact Below.refl _ _))) HC.out).mono ?_
                        rintro e_ w3 ⟨rfl, es3, m3, dp3, tr3, hS3, hle, hge, -⟩
                        have HD3 : Aside0 (-1000000000 ≤ dp3 ∧ dp3 ≤ 1000000000) := ⟨by have := HD2.out; omega⟩
                        have HS3 := Aside0.mk hS3
                        clear hS3 hle hge
                        go_wp2_with fail
                        refine (roundedInt_any g es3 m3 dp3 ng tr3 HD3.out.1 HD3.out.2 w0 _ HS3.out).mono ?_
                        rintro e_ w4 ⟨⟨N, rfl⟩, hS4⟩
                        have HS4 := Aside0.mk hS4
                        clear HS3
                        have l0 := pw_cell_below hS4.dec.bel HQ.out.mant
                        have l1 := pw_cell_below hS4.dec.bel HQ.out.exps
                        have l2 := pw_cell_below hS4.dec.bel HQ.out.bias
                        have HBLC : Aside0 (∀ W, Below w4.heap.size w4 W → Sh w0 W g ng es3 m3 dp3 tr3) := ⟨fun W hb => HS4.out.below hb⟩
                        clear hS4 j0 j1 j2
                        go_wp2_with fail
                        · go_quiet (fail)
                          go_wp2_with fail
                          all_goals
                            go_step3
                            exact ⟨⟨_, rfl⟩, FbJ.intro _ _ _ _ _ _ _ _ rfl rfl rfl rfl rfl rfl rfl (by omega) ⟨_, _, _, _, _, (HBLC.out _ (by repeat (first | (with_reducible exact Below.refl _ _) | apply pw_below_drewN | apply below_drew1 | exact Below.refl _ _))).dec⟩⟩
                        all_goals
                          go_step3
                          exact ⟨⟨_, rfl⟩, FbJ.intro _ _ _ _ _ _ _ _ rfl rfl rfl rfl rfl rfl rfl (by omega) ⟨_, _, _, _, _, (HBLC.out _ (by repeat (first | (with_reducible exact Below.refl _ _) | apply pw_below_drewN | apply below_drew1 | exact Below.refl _ _))).dec⟩⟩
                  · have s6 : (dp' == 0) = false := by rw [beq_eq_false_iff_ne]; exact hz
                    have x1 : -200000 ≤ x := by have := HX.out; omega
                    have x2 : x ≤ 90000 := HX.out.1
                    have i2 := pw_cell_below HS.out.dec.bel HQ.out.bias
                    clear p3 hneg hz
                    obtain ⟨z, hz⟩ : ∃ z : Int, x - 1 = z := ⟨_, rfl⟩
                    have z1 : -200001 ≤ z := by omega
                    have z2 : z ≤ 90000 := by omega
                    by_cases hx : z < -1022
                    · obtain ⟨k, hk⟩ : ∃ k : Nat, -1022 - z = (k : Int) := ⟨(-1022 - z).toNat, by omega⟩
                      have k1 : 1 ≤ k := by omega
                      have k2 : k ≤ 300000 := by omega
                      have HK := Aside0.mk (And.intro hk (And.intro k1 k2))
                      have i1 := pw_cell_below HS.out.dec.bel HQ.out.bias
                      clear i2
                      have HBLA : Aside0 (∀ W, Below wr.heap.size wr W → Sh w0 W g ng es m dp' tr') := ⟨fun W hb => HS.out.below hb⟩
                      clear hk k1 k2
                      go_wp2_with fail
                      refine (shift_neg' k _ (by have := HK.out; omega) (by have := HK.out; omega) (by have := HK.out; omega) g es m dp' ng tr' (by have := HDD.out; omega) (by have := HDD.out; omega) w0 _ (HBLA.out _ (by repeat (first | (with_reducible exact Below.refl _ _) | apply pw_below_drewN | apply below_drew1 | exact Below.refl _ _)))).mono ?_
                      rintro e_ w'' ⟨rfl, es2, m2, dp2, tr2, hS2, hle, hge, -⟩
                      have HS2 := Aside0.mk hS2
                      have HD2 : Aside0 (-100000000 ≤ dp2 ∧ dp2 ≤ 1000) := ⟨by have := HDD.out; have := HK.out; omega⟩
                      have j0 := pw_cell_below hS2.dec.bel HQ.out.mant
                      have j1 := pw_cell_below hS2.dec.bel HQ.out.exps
                      have j2 := pw_cell_below hS2.dec.bel HQ.out.bias
                      clear hS2 hle hge
                      go_wp2_with fail
                      go_quiet (fail)
                      have HBLB : Aside0 (∀ W, Below w''.heap.size w'' W → Sh w0 W g ng es2 m2 dp2 tr2) := ⟨fun W hb => HS2.out.below hb⟩
                      go_wp2_with fail
                      refine (shift_pos' 53 _ (by rfl) (by omega) (by omega) g es2 m2 dp2 ng tr2 (by have := HD2.out; omega) (by have := HD2.out; omega) w0 _ (HBLB.out _ (by repeat (first | (with_reducible exact Below.refl _ _) | apply pw_below_drewN | apply below_drew1 | exact Below.refl _ _))) HC.out).mono ?_
                      rintro e_ w3 ⟨rfl, es3, m3, dp3, tr3, hS3, hle, hge, -⟩
                      have HD3 : Aside0 (-1000000000 ≤ dp3 ∧ dp3 ≤ 1000000000) := ⟨by have := HD2.out; omega⟩
                      have HS3 := Aside0.mk hS3
                      clear hS3 hle hge
                      go_wp2_with fail
                      refine (roundedInt_any g es3 m3 dp3 ng tr3 HD3.out.1 HD3.out.2 w0 _ HS3.out).mono ?_
                      rintro e_ w4 ⟨⟨N, rfl⟩, hS4⟩
                      have HS4 := Aside0.mk hS4
                      clear HS3
                      have l0 := pw_cell_below hS4.dec.bel HQ.out.mant
                      have l1 := pw_cell_below hS4.dec.bel HQ.out.exps
                      have l2 := pw_cell_below hS4.dec.bel HQ.out.bias
                      have HBLC : Aside0 (∀ W, Below w4.heap.size w4 W → Sh w0 W g ng es3 m3 dp3 tr3) := ⟨fun W hb => HS4.out.below hb⟩
                      clear hS4 j0 j1 j2
                      go_wp2_with fail
                      · go_quiet (fail)
                        go_wp2_with fail
                        all_goals
                          go_step3
                          exact ⟨⟨_, rfl⟩, FbJ.intro _ _ _ _ _ _ _ _ rfl rfl rfl rfl rfl rfl rfl (by omega) ⟨_, _, _, _, _, (HBLC.out _ (by repeat (first | (with_reducible exact Below.refl _ _) | apply pw_below_drewN | apply below_drew1 | exact Below.refl _ _))).dec⟩⟩
                      all_goals
                        go_step3
                        exact ⟨⟨_, rfl⟩, FbJ.intro _ _ _ _ _ _ _ _ rfl rfl rfl rfl rfl rfl rfl (by omega) ⟨_, _, _, _, _, (HBLC.out _ (by repeat (first | (with_reducible exact Below.refl _ _) | apply pw_below_drewN | apply below_drew1 | exact Below.refl _ _))).dec⟩⟩
                    · have s5 : (z < -1022) = False := by simp; omega
                      have HS2 := HS
                      have HD2 : Aside0 (-100000000 ≤ dp' ∧ dp' ≤ 1000) := ⟨by have := HDD.out; omega⟩
                      have j0 := pw_cell_below HS.out.dec.bel HQ.out.mant
                      have j1 := pw_cell_below HS.out.dec.bel HQ.out.exps
                      have j2 := pw_cell_below HS.out.dec.bel HQ.out.bias
                      clear i2 hx
                      go_wp2_with fail
                      go_quiet (fail)
                      have HBLB : Aside0 (∀ W, Below wr.heap.size wr W → Sh w0 W g ng es m dp' tr') := ⟨fun W hb => HS2.out.below hb⟩
                      go_wp2_with fail
                      · go_step3
                        exact ⟨⟨_, rfl⟩, FbJ.intro _ _ _ _ _ _ _ _ rfl rfl rfl rfl rfl rfl rfl (by omega) ⟨_, _, _, _, _, (HBLB.out _ (by repeat (first | (with_reducible exact Below.refl _ _) | apply pw_below_drewN | apply below_drew1 | exact Below.refl _ _))).dec⟩⟩
                      refine (shift_pos' 53 _ (by rfl) (by omega) (by omega) g es m dp' ng tr' (by have := HD2.out; omega) (by have := HD2.out; omega) w0 _ (HBLB.out _ (by repeat (first | (with_reducible exact Below.refl _ _) | apply pw_below_drewN | apply below_drew1 | exact Below.refl _ _))) HC.out).mono ?_
                      rintro e_ w3 ⟨rfl, es3, m3, dp3, tr3, hS3, hle, hge, -⟩
                      have HD3 : Aside0 (-1000000000 ≤ dp3 ∧ dp3 ≤ 1000000000) := ⟨by have := HD2.out; omega⟩
                      have HS3 := Aside0.mk hS3
                      clear hS3 hle hge
                      go_wp2_with fail
                      refine (roundedInt_any g es3 m3 dp3 ng tr3 HD3.out.1 HD3.out.2 w0 _ HS3.out).mono ?_
                      rintro e_ w4 ⟨⟨N, rfl⟩, hS4⟩
                      have HS4 := Aside0.mk hS4
                      clear HS3
                      have l0 := pw_cell_below hS4.dec.bel HQ.out.mant
                      have l1 := pw_cell_below hS4.dec.bel HQ.out.exps
                      have l2 := pw_cell_below hS4.dec.bel HQ.out.bias
                      have HBLC : Aside0 (∀ W, Below w4.heap.size w4 W → Sh w0 W g ng es3 m3 dp3 tr3) := ⟨fun W hb => HS4.out.below hb⟩
                      clear hS4 j0 j1 j2
                      go_wp2_with fail
                      · go_quiet (fail)
                        go_wp2_with fail
                        all_goals
                          go_step3
                          exact ⟨⟨_, rfl⟩, FbJ.intro _ _ _ _ _ _ _ _ rfl rfl rfl rfl rfl rfl rfl (by omega) ⟨_, _, _, _, _, (HBLC.out _ (by repeat (first | (with_reducible exact Below.refl _ _) | apply pw_below_drewN | apply below_drew1 | exact Below.refl _ _))).dec⟩⟩
                      all_goals
                        go_step3
                        exact ⟨⟨_, rfl⟩, FbJ.intro _ _ _ _ _ _ _ _ rfl rfl rfl rfl rfl rfl rfl (by omega) ⟨_, _, _, _, _, (HBLC.out _ (by repeat (first | (with_reducible exact Below.refl _ _) | apply pw_below_drewN | apply below_drew1 | exact Below.refl _ _))).dec⟩⟩
  · intro l rest hf a w1 hJ
    obtain ⟨b, x, N, u, rfl, hl, hD⟩ := hJ
    replace hl : l = 0 ∨ l = 1 := by omega
    obtain ⟨es, nd', dp', ng', tr', hB⟩ := hD.out
    have HB := Aside0.mk hB
    have c3 := hB.ng_
    have hb := hB.bel
    have i0 := pw_cell_below hb hQ.mant
    have i1 := pw_cell_below hb hQ.exps
    have i2 := pw_cell_below hb hQ.bias
    clear hb hB hD hG hC hQ h d1 d2
    rcases hl with rfl | rfl
    · obtain rfl := Option.some.inj hf
      clear hf
      cases ng'
      · go_wp2_with fail
        go_quiet (fail)
        go_wp2_with fail
        try rw [jumps_ret]
        refine bodyPost_ret (results_list (rs := [.tmp 4, .tmp 5]) rfl (by simp) (.tmp (.tmp .nil))) rfl ?_
        exact ⟨⟨_, _, rfl⟩, below_step HB.out.bel (by repeat (first | (with_reducible exact Below.refl _ _) | apply pw_below_drewN | apply below_drew1 | exact Below.refl _ _))⟩
      · go_wp2_with fail
        go_quiet (fail)
        go_wp2_with fail
        go_quiet (fail)
        go_wp2_with fail
        try rw [jumps_ret]
        refine bodyPost_ret (results_list (rs := [.tmp 4, .tmp 5]) rfl (by simp) (.tmp (.tmp .nil))) rfl ?_
        exact ⟨⟨_, _, rfl⟩, below_step HB.out.bel (by repeat (first | (with_reducible exact Below.refl _ _) | apply pw_below_drewN | apply below_drew1 | exact Below.refl _ _))⟩
    · obtain rfl := Option.some.inj hf
      clear hf
      cases ng'
      · go_wp2_with fail
        go_quiet (fail)
        go_wp2_with fail
        go_step3
        go_wp2_with fail
        go_quiet (fail)
        go_wp2_with fail
        try rw [jumps_ret]
        refine bodyPost_ret (results_list (rs := [.tmp 4, .tmp 5]) rfl (by simp) (.tmp (.tmp .nil))) rfl ?_
        exact ⟨⟨_, _, rfl⟩, below_step HB.out.bel (by repeat (first | (with_reducible exact Below.refl _ _) | apply pw_below_drewN | apply below_drew1 | exact Below.refl _ _))⟩
      · go_wp2_with fail
        go_quiet (fail)
        go_wp2_with fail
        go_step3
        go_wp2_with fail
        go_quiet (fail)
        go_wp2_with fail
        go_quiet (fail)
        go_wp2_with fail
        try rw [jumps_ret]
        refine bodyPost_ret (results_list (rs := [.tmp 4, .tmp 5]) rfl (by simp) (.tmp (.tmp .nil))) rfl ?_
        exact ⟨⟨_, _, rfl⟩, below_step HB.out.bel (by repeat (first | (with_reducible exact Below.refl _ _) | apply pw_below_drewN | apply below_drew1 | exact Below.refl _ _))⟩
end Go.Proofs.YtjleceekccehoaaGreatDoor.Pr
