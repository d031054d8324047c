/- Texts of this session, cut down to what one claim needs and joined: FfPlainG, PrSoundingsref04Digit, PrSoundingsref04Digits. -/
import Derived.Test.YtjleceekccehoaaGreatDoorVGJ2
import Derived.Test.YtjleceekccehoaaGreatDoorVGJ0
section
set_option linter.unusedVariables false
set_option linter.unusedSimpArgs false
namespace Go.Proofs.YtjleceekccehoaaGreatDoor.Pr
open Go.RowKit Go.Proofs.YtjleceekccehoaaGreatDoorW.PrintWords Go.Proofs.YtjleceekccehoaaGreatDoorW.PrintLast Go.Proofs.YtjleceekccehoaaGreatDoorW.PrintMore

def dropD (l : List UInt8) : List UInt8 := l.dropWhile (dgs.contains ·)
def cntD (l : List UInt8) : Int := (l.length : Int) - (dropD l).length
def dropS (some l : List UInt8) : List UInt8 := if among some l = true then l.tail else l
/-- Behind a sign and the digits ahead of a point. -/
def pl1 (l : List UInt8) : List UInt8 := dropS [45] l
def pl2 (l : List UInt8) : List UInt8 := dropD (pl1 l)
def plDot (l : List UInt8) : Bool := among [46] (pl2 l)
def pl3 (l : List UInt8) : List UInt8 := dropS [46] (pl2 l)
def pl4 (l : List UInt8) : List UInt8 := if plDot l = true then dropD (pl3 l) else pl3 l
def plN (l : List UInt8) : Int := if plDot l = true then cntD (pl1 l) + cntD (pl3 l) else cntD (pl1 l)
def plE (l : List UInt8) : Bool := among [101, 69] (pl4 l)
def pl5 (l : List UInt8) : List UInt8 := dropS [101, 69] (pl4 l)
def pl6 (l : List UInt8) : List UInt8 := dropS [43, 45] (pl5 l)
/-- Is a text digits, with a point, and with a power? -/
def plainV (l : List UInt8) : Bool := if plN l = 0 then false else if plE l = true then (if cntD (pl6 l) = 0 then false else (dropD (pl6 l)).isEmpty) else (pl4 l).isEmpty
theorem dropD_le (l : List UInt8) : (dropD l).length ≤ l.length := List.Sublist.length_le (List.dropWhile_sublist _)
theorem dropS_le (some l : List UInt8) : (dropS some l).length ≤ l.length := by unfold dropS; split <;> simp
theorem cntD_bd (l : List UInt8) : 0 ≤ cntD l ∧ cntD l ≤ l.length := by have := dropD_le l; unfold cntD; omega
theorem sgn_st (some l : List UInt8) (hl : l.length ≤ 1000000) (g : Nat) (w0 w : World) (h : Box w0 w g l) (b : Bool) (hb : among some l = b) (r : List UInt8) (hr : dropS some l = r) :
  Calls Tryz.prog 63 #[.string (bs some), .pointer (.some ⟨g, 0, none⟩)] w fun e w' => e = .returned (.bool b) ∧ Box w0 w' g r := by
 subst hr
 subst hb
 exact sign_any some l (by omega) g w0 w h _ rfl
theorem dig_st (l : List UInt8) (hl : l.length ≤ 1000000) (g : Nat) (w0 w : World) (h : Box w0 w g l) (n : Int) (hn : cntD l = n) (r : List UInt8) (hr : dropD l = r) :
  Calls Tryz.prog 61 #[.pointer (some ⟨g, 0, none⟩)] w fun e w' => e = .returned (.int .i64 n) ∧ Box w0 w' g r := by
 subst hr
 subst hn
 exact digits_any l (by omega) g w0 w h
theorem bs_empty_eq (l : List UInt8) : (bs l).toList.isEmpty = l.isEmpty := by rw [Lib.toList_data]; rfl
set_option maxHeartbeats 8000000 in
set_option maxRecDepth 100000 in
theorem plain_any (l : List UInt8) (hl : l.length ≤ 1000000) (w : World) :
  Calls Tryz.prog 39 #[.string (bs l)] w fun e w' => e = .returned (.bool (plainV l)) ∧ Below w.heap.size w w' := by
 have HB := Aside0.mk (Box.new (w0 := w) w l (Below.refl _ _))
 have h1 := dropS_le [45] l
 have h2 := dropD_le (pl1 l)
 have h3 := dropS_le [46] (pl2 l)
 have h4 := dropD_le (pl3 l)
 obtain ⟨b1, hb1⟩ : ∃ b, among [45] l = b := ⟨_, rfl⟩
 obtain ⟨l1, e1⟩ : ∃ x, pl1 l = x := ⟨_, rfl⟩
 obtain ⟨l2, e2⟩ : ∃ x, pl2 l = x := ⟨_, rfl⟩
 obtain ⟨l3, e3⟩ : ∃ x, pl3 l = x := ⟨_, rfl⟩
 obtain ⟨l4, e4⟩ : ∃ x, pl4 l = x := ⟨_, rfl⟩
 obtain ⟨l5, e5⟩ : ∃ x, pl5 l = x := ⟨_, rfl⟩
 obtain ⟨l6, e6⟩ : ∃ x, pl6 l = x := ⟨_, rfl⟩
 obtain ⟨n1, f1⟩ : ∃ x, cntD (pl1 l) = x := ⟨_, rfl⟩
 obtain ⟨n3, f3⟩ : ∃ x, cntD (pl3 l) = x := ⟨_, rfl⟩
 obtain ⟨n6, f6⟩ : ∃ x, cntD (pl6 l) = x := ⟨_, rfl⟩
 have c1 := cntD_bd (pl1 l)
 have c3 := cntD_bd (pl3 l)
 have c6 := cntD_bd (pl6 l)
 have k1 : l1.length ≤ 1000000 := by rw [← e1]; exact Nat.le_trans h1 hl
 have k2 : l2.length ≤ 1000000 := by rw [← e2]; exact Nat.le_trans h2 (by rw [e1]; exact k1)
 have k3 : l3.length ≤ 1000000 := by rw [← e3]; exact Nat.le_trans h3 (by rw [e2]; exact k2)
 have k4 : l4.length ≤ 1000000 := by rw [← e4]; unfold pl4; split; exact Nat.le_trans h4 (by rw [e3]; exact k3); rw [e3]; exact k3
 have k5 : l5.length ≤ 1000000 := by rw [← e5]; exact Nat.le_trans (dropS_le _ _) (by rw [e4]; exact k4)
 have k6 : l6.length ≤ 1000000 := by rw [← e6]; exact Nat.le_trans (dropS_le _ _) (by rw [e5]; exact k5)
 rw [f1, e1] at c1
 rw [f3, e3] at c3
 rw [f6, e6] at c6
 have q1 : dropS [45] l = l1 := e1
 have q2 : dropD l1 = l2 := by rw [← e1]; exact e2
 have q3 : dropS [46] l2 = l3 := by rw [← e2]; exact e3
 have q5 : dropS [101, 69] l4 = l5 := by rw [← e4]; exact e5
 have q6 : dropS [43, 45] l5 = l6 := by rw [← e5]; exact e6
 have g1 : cntD l1 = n1 := by rw [← e1]; exact f1
 have g3 : cntD l3 = n3 := by rw [← e3]; exact f3
 have g6 : cntD l6 = n6 := by rw [← e6]; exact f6
 obtain ⟨b6, hb6⟩ : ∃ b, among [43, 45] l5 = b := ⟨_, rfl⟩
 have QA := Aside0.mk (And.intro q1 (And.intro q2 (And.intro q3 (And.intro q5 q6))))
 have QG := Aside0.mk (And.intro g1 (And.intro g3 g6))
 have K := Aside0.mk (And.intro k1 (And.intro k2 (And.intro k3 (And.intro k4 (And.intro k5 k6)))))
 have H1 := Aside0.mk hb1
 have H6 := Aside0.mk hb6
 have HLL := Aside0.mk hl
 clear hl h1 h2 h3 h4 q1 q2 q3 q5 q6 g1 g3 g6 k1 k2 k3 k4 k5 k6 hb1 hb6
 have hdc : among [46] l2 = plDot l := by rw [← e2]; rfl
 have hec : among [101, 69] l4 = plE l := by rw [← e4]; rfl
 obtain ⟨l7, e7⟩ : ∃ x, dropD l6 = x := ⟨_, rfl⟩
 have HQ7 := Aside0.mk e7
 cases hd : plDot l
 ·rw [hd] at hdc
  have HD := Aside0.mk hdc
  have hN : plN l = n1 := by unfold plN; rw [hd]; simp [f1, f3]
  have h34 : l3 = l4 := by rw [← e4]; unfold pl4; rw [hd]; simp [e3]
  subst h34
  by_cases hz : n1 = 0
  ·have HV : Aside0 (plainV l = false) := ⟨by unfold plainV; rw [if_pos (hN.trans hz)]⟩
   have tz : ((n1) == 0) = true := beq_iff_eq.2 hz
   rw [HV.out]
   clear hz hN hd hdc hec e1 e2 e3 e4 e5 e6 e7 f1 f3 f6
   go_enter Tryz.func39, Tryz.ntmps39
   go_wp2_with fail
   refine (sgn_st [45] l HLL.out _ w _ HB.out b1 H1.out l1 QA.out.1).mono ?_
   rintro e w1 ⟨rfl, hb_⟩
   have n0_ := Aside0.mk hb_; clear HB hb_; have HB := n0_; clear n0_
   go_wp2_with fail
   refine (dig_st l1 K.out.1 _ w _ HB.out n1 QG.out.1 l2 QA.out.2.1).mono ?_
   rintro e w2 ⟨rfl, hb_⟩
   have n0_ := Aside0.mk hb_; clear HB hb_; have HB := n0_; clear n0_
   go_wp2_with fail
   refine (sgn_st [46] l2 K.out.2.1 _ w _ HB.out false HD.out l3 QA.out.2.2.1).mono ?_
   rintro e w3 ⟨rfl, hb_⟩
   have n0_ := Aside0.mk hb_; clear HB hb_; have HB := n0_; clear n0_
   go_wp2_with fail
   go_ret
   exact ⟨rfl, HB.out.bel⟩
  ·have tz : ((n1) == 0) = false := beq_eq_false_iff_ne.2 hz
   cases he : plE l
   ·rw [he] at hec
    have HE := Aside0.mk hec
    have h45 : l3 = l5 := by rw [← e5]; unfold pl5 dropS; rw [show among [101, 69] (pl4 l) = false from he]; simp [e4]
    have HV : Aside0 (plainV l = l5.isEmpty) := ⟨by unfold plainV; rw [if_neg (by rw [hN]; exact hz), he, e4, h45]; rfl⟩
    rw [HV.out]
    clear hz hN hd hdc hec he h45 e1 e2 e3 e4 e5 e6 e7 f1 f3 f6
    go_enter Tryz.func39, Tryz.ntmps39
    go_wp2_with fail
    refine (sgn_st [45] l HLL.out _ w _ HB.out b1 H1.out l1 QA.out.1).mono ?_
    rintro e w1 ⟨rfl, hb_⟩
    have n0_ := Aside0.mk hb_; clear HB hb_; have HB := n0_; clear n0_
    go_wp2_with fail
    refine (dig_st l1 K.out.1 _ w _ HB.out n1 QG.out.1 l2 QA.out.2.1).mono ?_
    rintro e w2 ⟨rfl, hb_⟩
    have n0_ := Aside0.mk hb_; clear HB hb_; have HB := n0_; clear n0_
    go_wp2_with fail
    refine (sgn_st [46] l2 K.out.2.1 _ w _ HB.out false HD.out l3 QA.out.2.2.1).mono ?_
    rintro e w3 ⟨rfl, hb_⟩
    have n0_ := Aside0.mk hb_; clear HB hb_; have HB := n0_; clear n0_
    go_wp2_with fail
    refine (sgn_st [101, 69] l3 K.out.2.2.1 _ w _ HB.out false HE.out l5 QA.out.2.2.2.1).mono ?_
    rintro e w5 ⟨rfl, hb_⟩
    have n0_ := Aside0.mk hb_; clear HB hb_; have HB := n0_; clear n0_
    have c0 := HB.out.cell
    have kk := bs_empty_eq l5
    go_wp2_with fail
    go_ret
    exact ⟨by first | rfl | (rw [kk]) | (simp [kk]), HB.out.bel⟩
   ·rw [he] at hec
    have HE := Aside0.mk hec
    by_cases h6 : n6 = 0
    ·have HV : Aside0 (plainV l = false) := ⟨by unfold plainV; rw [if_neg (by rw [hN]; exact hz), he, if_pos rfl, if_pos (f6.trans h6)]⟩
     have t6 : (n6 == 0) = true := beq_iff_eq.2 h6
     rw [HV.out]
     clear hz hN hd hdc hec he h6 e1 e2 e3 e4 e5 e6 e7 f1 f3 f6
     go_enter Tryz.func39, Tryz.ntmps39
     go_wp2_with fail
     refine (sgn_st [45] l HLL.out _ w _ HB.out b1 H1.out l1 QA.out.1).mono ?_
     rintro e w1 ⟨rfl, hb_⟩
     have n0_ := Aside0.mk hb_; clear HB hb_; have HB := n0_; clear n0_
     go_wp2_with fail
     refine (dig_st l1 K.out.1 _ w _ HB.out n1 QG.out.1 l2 QA.out.2.1).mono ?_
     rintro e w2 ⟨rfl, hb_⟩
     have n0_ := Aside0.mk hb_; clear HB hb_; have HB := n0_; clear n0_
     go_wp2_with fail
     refine (sgn_st [46] l2 K.out.2.1 _ w _ HB.out false HD.out l3 QA.out.2.2.1).mono ?_
     rintro e w3 ⟨rfl, hb_⟩
     have n0_ := Aside0.mk hb_; clear HB hb_; have HB := n0_; clear n0_
     go_wp2_with fail
     refine (sgn_st [101, 69] l3 K.out.2.2.1 _ w _ HB.out true HE.out l5 QA.out.2.2.2.1).mono ?_
     rintro e w5 ⟨rfl, hb_⟩
     have n0_ := Aside0.mk hb_; clear HB hb_; have HB := n0_; clear n0_
     go_wp2_with fail
     refine (sgn_st [43, 45] l5 K.out.2.2.2.2.1 _ w _ HB.out b6 H6.out l6 QA.out.2.2.2.2).mono ?_
     rintro e w6 ⟨rfl, hb_⟩
     have n0_ := Aside0.mk hb_; clear HB hb_; have HB := n0_; clear n0_
     go_wp2_with fail
     refine (dig_st l6 K.out.2.2.2.2.2 _ w _ HB.out n6 QG.out.2.2 l7 HQ7.out).mono ?_
     rintro e w7 ⟨rfl, hb_⟩
     have n0_ := Aside0.mk hb_; clear HB hb_; have HB := n0_; clear n0_
     go_wp2_with fail
     go_ret
     exact ⟨rfl, HB.out.bel⟩
    ·have HV : Aside0 (plainV l = l7.isEmpty) := ⟨by unfold plainV; rw [if_neg (by rw [hN]; exact hz), he, if_pos rfl, if_neg (by rw [f6]; exact h6), e6, e7]⟩
     have t6 : (n6 == 0) = false := beq_eq_false_iff_ne.2 h6
     rw [HV.out]
     clear hz hN hd hdc hec he h6 e1 e2 e3 e4 e5 e6 e7 f1 f3 f6
     go_enter Tryz.func39, Tryz.ntmps39
     go_wp2_with fail
     refine (sgn_st [45] l HLL.out _ w _ HB.out b1 H1.out l1 QA.out.1).mono ?_
     rintro e w1 ⟨rfl, hb_⟩
     have n0_ := Aside0.mk hb_; clear HB hb_; have HB := n0_; clear n0_
     go_wp2_with fail
     refine (dig_st l1 K.out.1 _ w _ HB.out n1 QG.out.1 l2 QA.out.2.1).mono ?_
     rintro e w2 ⟨rfl, hb_⟩
     have n0_ := Aside0.mk hb_; clear HB hb_; have HB := n0_; clear n0_
     go_wp2_with fail
     refine (sgn_st [46] l2 K.out.2.1 _ w _ HB.out false HD.out l3 QA.out.2.2.1).mono ?_
     rintro e w3 ⟨rfl, hb_⟩
     have n0_ := Aside0.mk hb_; clear HB hb_; have HB := n0_; clear n0_
     go_wp2_with fail
     refine (sgn_st [101, 69] l3 K.out.2.2.1 _ w _ HB.out true HE.out l5 QA.out.2.2.2.1).mono ?_
     rintro e w5 ⟨rfl, hb_⟩
     have n0_ := Aside0.mk hb_; clear HB hb_; have HB := n0_; clear n0_
     go_wp2_with fail
     refine (sgn_st [43, 45] l5 K.out.2.2.2.2.1 _ w _ HB.out b6 H6.out l6 QA.out.2.2.2.2).mono ?_
     rintro e w6 ⟨rfl, hb_⟩
     have n0_ := Aside0.mk hb_; clear HB hb_; have HB := n0_; clear n0_
     go_wp2_with fail
     refine (dig_st l6 K.out.2.2.2.2.2 _ w _ HB.out n6 QG.out.2.2 l7 HQ7.out).mono ?_
     rintro e w7 ⟨rfl, hb_⟩
     have n0_ := Aside0.mk hb_; clear HB hb_; have HB := n0_; clear n0_
     have c0 := HB.out.cell
     have kk := bs_empty_eq l7
     go_wp2_with fail
     go_ret
     exact ⟨by first | rfl | (rw [kk]) | (simp [kk]), HB.out.bel⟩
 ·rw [hd] at hdc
  have HD := Aside0.mk hdc
  have hN : plN l = n1 + n3 := by unfold plN; rw [hd]; simp [f1, f3]
  have h34 : dropD l3 = l4 := by rw [← e4]; unfold pl4; rw [hd]; simp [e3]
  have HQ4 := Aside0.mk h34
  have zz : IntKind.i64.wrap (n1 + n3) = n1 + n3 := IntWalk.i64_in _ (by have h1_ := K.out.1; have h3_ := K.out.2.2.1; omega)
  by_cases hz : n1 + n3 = 0
  ·have HV : Aside0 (plainV l = false) := ⟨by unfold plainV; rw [if_pos (hN.trans hz)]⟩
   have tz : ((n1 + n3) == 0) = true := beq_iff_eq.2 hz
   rw [HV.out]
   clear hz hN hd hdc hec e1 e2 e3 e4 e5 e6 e7 f1 f3 f6 h34
   go_enter Tryz.func39, Tryz.ntmps39
   go_wp2_with fail
   refine (sgn_st [45] l HLL.out _ w _ HB.out b1 H1.out l1 QA.out.1).mono ?_
   rintro e w1 ⟨rfl, hb_⟩
   have n0_ := Aside0.mk hb_; clear HB hb_; have HB := n0_; clear n0_
   go_wp2_with fail
   refine (dig_st l1 K.out.1 _ w _ HB.out n1 QG.out.1 l2 QA.out.2.1).mono ?_
   rintro e w2 ⟨rfl, hb_⟩
   have n0_ := Aside0.mk hb_; clear HB hb_; have HB := n0_; clear n0_
   go_wp2_with fail
   refine (sgn_st [46] l2 K.out.2.1 _ w _ HB.out true HD.out l3 QA.out.2.2.1).mono ?_
   rintro e w3 ⟨rfl, hb_⟩
   have n0_ := Aside0.mk hb_; clear HB hb_; have HB := n0_; clear n0_
   go_wp2_with fail
   refine (dig_st l3 K.out.2.2.1 _ w _ HB.out n3 QG.out.2.1 l4 HQ4.out).mono ?_
   rintro e w4 ⟨rfl, hb_⟩
   have n0_ := Aside0.mk hb_; clear HB hb_; have HB := n0_; clear n0_
   go_wp2_with fail
   go_ret
   exact ⟨rfl, HB.out.bel⟩
  ·have tz : ((n1 + n3) == 0) = false := beq_eq_false_iff_ne.2 hz
   cases he : plE l
   ·rw [he] at hec
    have HE := Aside0.mk hec
    have h45 : l4 = l5 := by rw [← e5]; unfold pl5 dropS; rw [show among [101, 69] (pl4 l) = false from he]; simp [e4]
    have HV : Aside0 (plainV l = l5.isEmpty) := ⟨by unfold plainV; rw [if_neg (by rw [hN]; exact hz), he, e4, h45]; rfl⟩
    rw [HV.out]
    clear hz hN hd hdc hec he h45 e1 e2 e3 e4 e5 e6 e7 f1 f3 f6 h34
    go_enter Tryz.func39, Tryz.ntmps39
    go_wp2_with fail
    refine (sgn_st [45] l HLL.out _ w _ HB.out b1 H1.out l1 QA.out.1).mono ?_
    rintro e w1 ⟨rfl, hb_⟩
    have n0_ := Aside0.mk hb_; clear HB hb_; have HB := n0_; clear n0_
    go_wp2_with fail
    refine (dig_st l1 K.out.1 _ w _ HB.out n1 QG.out.1 l2 QA.out.2.1).mono ?_
    rintro e w2 ⟨rfl, hb_⟩
    have n0_ := Aside0.mk hb_; clear HB hb_; have HB := n0_; clear n0_
    go_wp2_with fail
    refine (sgn_st [46] l2 K.out.2.1 _ w _ HB.out true HD.out l3 QA.out.2.2.1).mono ?_
    rintro e w3 ⟨rfl, hb_⟩
    have n0_ := Aside0.mk hb_; clear HB hb_; have HB := n0_; clear n0_
    go_wp2_with fail
    refine (dig_st l3 K.out.2.2.1 _ w _ HB.out n3 QG.out.2.1 l4 HQ4.out).mono ?_
    rintro e w4 ⟨rfl, hb_⟩
    have n0_ := Aside0.mk hb_; clear HB hb_; have HB := n0_; clear n0_
    go_wp2_with fail
    refine (sgn_st [101, 69] l4 K.out.2.2.2.1 _ w _ HB.out false HE.out l5 QA.out.2.2.2.1).mono ?_
    rintro e w5 ⟨rfl, hb_⟩
    have n0_ := Aside0.mk hb_; clear HB hb_; have HB := n0_; clear n0_
    have c0 := HB.out.cell
    have kk := bs_empty_eq l5
    go_wp2_with fail
    go_ret
    exact ⟨by first | rfl | (rw [kk]) | (simp [kk]), HB.out.bel⟩
   ·rw [he] at hec
    have HE := Aside0.mk hec
    by_cases h6 : n6 = 0
    ·have HV : Aside0 (plainV l = false) := ⟨by unfold plainV; rw [if_neg (by rw [hN]; exact hz), he, if_pos rfl, if_pos (f6.trans h6)]⟩
     have t6 : (n6 == 0) = true := beq_iff_eq.2 h6
     rw [HV.out]
     clear hz hN hd hdc hec he h6 e1 e2 e3 e4 e5 e6 e7 f1 f3 f6 h34
     go_enter Tryz.func39, Tryz.ntmps39
     go_wp2_with fail
     refine (sgn_st [45] l HLL.out _ w _ HB.out b1 H1.out l1 QA.out.1).mono ?_
     rintro e w1 ⟨rfl, hb_⟩
     have n0_ := Aside0.mk hb_; clear HB hb_; have HB := n0_; clear n0_
     go_wp2_with fail
     refine (dig_st l1 K.out.1 _ w _ HB.out n1 QG.out.1 l2 QA.out.2.1).mono ?_
     rintro e w2 ⟨rfl, hb_⟩
     have n0_ := Aside0.mk hb_; clear HB hb_; have HB := n0_; clear n0_
     go_wp2_with fail
     refine (sgn_st [46] l2 K.out.2.1 _ w _ HB.out true HD.out l3 QA.out.2.2.1).mono ?_
     rintro e w3 ⟨rfl, hb_⟩
     have n0_ := Aside0.mk hb_; clear HB hb_; have HB := n0_; clear n0_
     go_wp2_with fail
     refine (dig_st l3 K.out.2.2.1 _ w _ HB.out n3 QG.out.2.1 l4 HQ4.out).mono ?_
     rintro e w4 ⟨rfl, hb_⟩
     have n0_ := Aside0.mk hb_; clear HB hb_; have HB := n0_; clear n0_
     go_wp2_with fail
     refine (sgn_st [101, 69] l4 K.out.2.2.2.1 _ w _ HB.out true HE.out l5 QA.out.2.2.2.1).mono ?_
     rintro e w5 ⟨rfl, hb_⟩
     have n0_ := Aside0.mk hb_; clear HB hb_; have HB := n0_; clear n0_
     go_wp2_with fail
     refine (sgn_st [43, 45] l5 K.out.2.2.2.2.1 _ w _ HB.out b6 H6.out l6 QA.out.2.2.2.2).mono ?_
     rintro e w6 ⟨rfl, hb_⟩
     have n0_ := Aside0.mk hb_; clear HB hb_; have HB := n0_; clear n0_
     go_wp2_with fail
     refine (dig_st l6 K.out.2.2.2.2.2 _ w _ HB.out n6 QG.out.2.2 l7 HQ7.out).mono ?_
     rintro e w7 ⟨rfl, hb_⟩
     have n0_ := Aside0.mk hb_; clear HB hb_; have HB := n0_; clear n0_
     go_wp2_with fail
     go_ret
     exact ⟨rfl, HB.out.bel⟩
    ·have HV : Aside0 (plainV l = l7.isEmpty) := ⟨by unfold plainV; rw [if_neg (by rw [hN]; exact hz), he, if_pos rfl, if_neg (by rw [f6]; exact h6), e6, e7]⟩
     have t6 : (n6 == 0) = false := beq_eq_false_iff_ne.2 h6
     rw [HV.out]
     clear hz hN hd hdc hec he h6 e1 e2 e3 e4 e5 e6 e7 f1 f3 f6 h34
     go_enter Tryz.func39, Tryz.ntmps39
     go_wp2_with fail
     refine (sgn_st [45] l HLL.out _ w _ HB.out b1 H1.out l1 QA.out.1).mono ?_
     rintro e w1 ⟨rfl, hb_⟩
     have n0_ := Aside0.mk hb_; clear HB hb_; have HB := n0_; clear n0_
     go_wp2_with fail
     refine (dig_st l1 K.out.1 _ w _ HB.out n1 QG.out.1 l2 QA.out.2.1).mono ?_
     rintro e w2 ⟨rfl, hb_⟩
     have n0_ := Aside0.mk hb_; clear HB hb_; have HB := n0_; clear n0_
     go_wp2_with fail
     refine (sgn_st [46] l2 K.out.2.1 _ w _ HB.out true HD.out l3 QA.out.2.2.1).mono ?_
     rintro e w3 ⟨rfl, hb_⟩
     have n0_ := Aside0.mk hb_; clear HB hb_; have HB := n0_; clear n0_
     go_wp2_with fail
     refine (dig_st l3 K.out.2.2.1 _ w _ HB.out n3 QG.out.2.1 l4 HQ4.out).mono ?_
     rintro e w4 ⟨rfl, hb_⟩
     have n0_ := Aside0.mk hb_; clear HB hb_; have HB := n0_; clear n0_
     go_wp2_with fail
     refine (sgn_st [101, 69] l4 K.out.2.2.2.1 _ w _ HB.out true HE.out l5 QA.out.2.2.2.1).mono ?_
     rintro e w5 ⟨rfl, hb_⟩
     have n0_ := Aside0.mk hb_; clear HB hb_; have HB := n0_; clear n0_
     go_wp2_with fail
     refine (sgn_st [43, 45] l5 K.out.2.2.2.2.1 _ w _ HB.out b6 H6.out l6 QA.out.2.2.2.2).mono ?_
     rintro e w6 ⟨rfl, hb_⟩
     have n0_ := Aside0.mk hb_; clear HB hb_; have HB := n0_; clear n0_
     go_wp2_with fail
     refine (dig_st l6 K.out.2.2.2.2.2 _ w _ HB.out n6 QG.out.2.2 l7 HQ7.out).mono ?_
     rintro e w7 ⟨rfl, hb_⟩
     have n0_ := Aside0.mk hb_; clear HB hb_; have HB := n0_; clear n0_
     have c0 := HB.out.cell
     have kk := bs_empty_eq l7
     go_wp2_with fail
     go_ret
     exact ⟨by first | rfl | (rw [kk]) | (simp [kk]), HB.out.bel⟩
end Go.Proofs.YtjleceekccehoaaGreatDoor.Pr
end

section
-- Written by a program of this session (wip/hook.py) out of the translation. Not trusted: Lean checks it.
namespace Go.Proofs.YtjleceekccehoaaGreatDoor.Pr
open Go.RowKit Go.Proofs.YtjleceekccehoaaGreatDoorW.PrintWords Go.Proofs.YtjleceekccehoaaGreatDoorW.PrintLast Go.Proofs.YtjleceekccehoaaGreatDoorW.PrintMore
attribute [local go_sem] max2_int min2_int max_two min_two max_three min_three max_four min_four   -- for this text's walks alone
set_option linter.unusedVariables false
set_option linter.unusedSimpArgs false

/-! ### soundingsref04_digit: function 94 -/
def soundingsref04_digit.f (a0 : Int) : Option (Bool) := if a0 ≥ 48 then (some (decide (a0 ≤ 57))) else (some false)
set_option maxHeartbeats 8000000 in
set_option maxRecDepth 100000 in
theorem soundingsref04_digit.calls (a0 : Int) (r : Bool) (w : World) (h : soundingsref04_digit.f a0 = some r) :
  Calls Tryz.prog 94 #[.int .u8 a0] w fun e w' => e = .returned (.bool r) ∧ Drawn0 w w' := by
 have H : (if a0 ≥ 48 then (some (decide (a0 ≤ 57))) else (some false)) = some r := h
 clear h
 by_cases c2 : a0 ≥ 48
 ·rw [if_pos c2] at H
  have c2b0 : decide (48 ≤ a0) = true := decide_eq_true c2
  clear c2
  obtain rfl := Option.some.inj H
  go_enter Tryz.func94, Tryz.ntmps94
  go_wp2
  go_ret
  exact ⟨by first | rfl | (simp; done) | (simp [*]; done), by repeat (first | exact Drawn0.refl _ | apply Drawn0.step)⟩
 ·rw [if_neg c2] at H
  have c2b0 : decide (48 ≤ a0) = false := decide_eq_false c2
  clear c2
  obtain rfl := Option.some.inj H
  go_enter Tryz.func94, Tryz.ntmps94
  go_wp2
  go_ret
  exact ⟨by first | rfl | (simp; done) | (simp [*]; done), by repeat (first | exact Drawn0.refl _ | apply Drawn0.step)⟩

end Go.Proofs.YtjleceekccehoaaGreatDoor.Pr
end

section
-- Written by a program of this session (wip/hook.py) out of the translation. Not trusted: Lean checks it.
namespace Go.Proofs.YtjleceekccehoaaGreatDoor.Pr
open Go.RowKit Go.Proofs.YtjleceekccehoaaGreatDoorW.PrintWords Go.Proofs.YtjleceekccehoaaGreatDoorW.PrintLast Go.Proofs.YtjleceekccehoaaGreatDoorW.PrintMore
attribute [local go_sem] max2_int min2_int max_two min_two max_three min_three max_four min_four   -- for this text's walks alone
set_option linter.unusedVariables false
set_option linter.unusedSimpArgs false

/-! ### soundingsref04_digits: function 66 -/
def soundingsref04_digits.l0 : Nat → ByteArray → Int → Int → Option (Int)
 | 0, _, _, _ => none
 | k + 1, x0, x1, x5 => if (wrap64 (x1 + x5)) < (x0.size : Int) then (if 0 ≤ (wrap64 (x1 + x5)) then ((soundingsref04_digit.f (bt x0 (wrap64 (x1 + x5)))).bind fun t306 => (if t306 = true then (soundingsref04_digits.l0 k x0 x1 (wrap64 (x5 + 1))) else (some x5))) else (none)) else (some x5)
def soundingsref04_digits.f (k : Nat) (a0 : ByteArray) (a1 : Int) : Option (Int) := soundingsref04_digits.l0 k a0 a1 0
theorem soundingsref04_digits.mono_l : ∀ k, (∀ y0 y1 y2, LeO (soundingsref04_digits.l0 k y0 y1 y2) (soundingsref04_digits.l0 (k + 1) y0 y1 y2))
 | 0 => fun _ _ _ r h => by simp [soundingsref04_digits.l0] at h
 | k + 1 => by
  have ih0 := soundingsref04_digits.mono_l k
  ·intro y0 y1 y2
   unfold soundingsref04_digits.l0
   repeat' first
   | (with_reducible exact ih0 _ _ _)
   | (with_reducible exact LeO.refl _)
   | (with_reducible exact LeO.none _)
   | (with_reducible refine LeO.ite ?_ ?_)
   | (with_reducible refine LeO.bind ?_ (fun _ => ?_))
   | exact ih0 _ _ _
   | exact LeO.none _
   | refine LeO.ite ?_ ?_
   | refine LeO.bind ?_ (fun _ => ?_)
theorem soundingsref04_digits.mono : ∀ a0 a1 k, LeO (soundingsref04_digits.f k a0 a1) (soundingsref04_digits.f (k + 1) a0 a1) := by
 intro a0 a1 k
 have ih0 := soundingsref04_digits.mono_l k
 unfold soundingsref04_digits.f
 repeat' first
   | (with_reducible exact ih0 _ _ _)
   | (with_reducible exact LeO.refl _)
   | (with_reducible exact LeO.none _)
   | (with_reducible refine LeO.ite ?_ ?_)
   | (with_reducible refine LeO.bind ?_ (fun _ => ?_))
   | exact ih0 _ _ _
   | exact LeO.none _
   | refine LeO.ite ?_ ?_
   | refine LeO.bind ?_ (fun _ => ?_)
set_option maxHeartbeats 8000000 in
set_option maxRecDepth 100000 in
theorem soundingsref04_digits.calls (k : Nat) (a0 : ByteArray) (a1 : Int) (r : Int) (w : World) (h : soundingsref04_digits.f k a0 a1 = some r) :
  Calls Tryz.prog 66 #[.string a0, .int .i64 a1] w fun e w' => e = .returned (.int .i64 r) ∧ Drawn0 w w' := by
 have H : (soundingsref04_digits.l0 k a0 a1 0) = some r := h
 clear h
 have H' := Aside0.mk H
 clear H
 go_enter Tryz.func66, Tryz.ntmps66
 go_wp2
 go_loopg [5] k (fun kq v5 w' => ∃ (x5_1 : Int), v5 = .int .i64 x5_1 ∧ Aside0 (soundingsref04_digits.l0 kq a0 a1 x5_1 = some r) ∧ Aside0 (kq ≤ k) ∧ Drawn0 w w')
 case atStart => exact ⟨(0), (by first | rfl | (simp; done) | (simp [*]; done)), H', ⟨Nat.le_refl _⟩, by repeat (first | exact Drawn0.refl _ | apply Drawn0.step)⟩
 case round =>
  clear H'
  try clear p2
  obtain ⟨x5_1, rfl, HA, HK1, ⟨m1, rfl⟩⟩ := hrel
  cases gk with
  | zero => exact absurd HA.out (by simp [soundingsref04_digits.l0])
  | succ k1 =>
   have H := HA.out
   clear HA
   simp only [soundingsref04_digits.l0] at H
   by_cases c3 : (wrap64 (a1 + x5_1)) < (a0.size : Int)
   ·rw [if_pos c3] at H
    have c3b0 : decide ((wrap64 (a1 + x5_1)) < (a0.size : Int)) = true := decide_eq_true c3
    clear c3
    obtain ⟨ji4, hji4⟩ : ∃ j_ : Int, (wrap64 (a1 + x5_1)) = j_ := ⟨_, rfl⟩
    replace H : (if 0 ≤ (ji4) then ((soundingsref04_digit.f (bt a0 (ji4))).bind fun t306 => (if t306 = true then (soundingsref04_digits.l0 k1 a0 a1 (wrap64 (x5_1 + 1))) else (some x5_1))) else (none)) = some r := by first | (rw [hji4] at H; exact H) | (simp only [hji4] at H ⊢; exact H)
    (try rw [hji4] at c3b0)
    have hji4w : (IntKind.i64.wrap (a1 + x5_1)) = ji4 := (i64_w _).trans hji4
    by_cases c5 : 0 ≤ (ji4)
    ·rw [if_pos c5] at H
     have c5b0 : decide (0 ≤ (ji4)) = true := decide_eq_true c5
     clear c5
     replace H := Option.bind_eq_some_iff.mp H
     obtain ⟨t306, A70, H⟩ := H
     replace H : (if t306 = true then (soundingsref04_digits.l0 k1 a0 a1 (wrap64 (x5_1 + 1))) else (some x5_1)) = some r := H
     have A7 := Aside0.mk A70
     clear A70
     by_cases c8 : t306 = true
     ·subst c8
      have H1 : (soundingsref04_digits.l0 k1 a0 a1 (wrap64 (x5_1 + 1))) = some r := by rw [if_pos rfl] at H; exact H
      clear H
      have H := H1
      clear H1
      have H' := Aside0.mk H
      clear H
      have p6 : 0 ≤ ((ji4) : Int) := of_decide_eq_true (by first | (with_reducible assumption) | assumption)
      have q6 : (ji4) < (a0.size : Int) := of_decide_eq_true (by first | (with_reducible assumption) | assumption)
      have hx6 := bt_at a0 (ji4)
      replace p6 := eq_true p6
      replace q6 := eq_true q6
      go_wp2_with (first | (go_at_call 94; (with_reducible refine (soundingsref04_digit.calls (bt a0 (ji4)) true _ A7.out).mono ?_); rintro e w' ⟨rfl, ⟨nd, rfl⟩⟩))
      go_roundg k1
      case measure => have := HK1.out; omega
      case rel => exact ⟨(wrap64 (x5_1 + 1)), (by first | rfl | (simp; done) | (simp [*]; done)), H', ⟨by have := HK1.out; omega⟩, by repeat (first | exact Drawn0.refl _ | apply Drawn0.step)⟩
     ·replace c8 := Bool.eq_false_iff.mpr c8
      subst c8
      have H1 : (some x5_1) = some r := by rw [if_neg (show ¬ (false = true) by decide)] at H; exact H
      clear H
      have H := H1
      clear H1
      obtain rfl := Option.some.inj H
      have p6 : 0 ≤ ((ji4) : Int) := of_decide_eq_true (by first | (with_reducible assumption) | assumption)
      have q6 : (ji4) < (a0.size : Int) := of_decide_eq_true (by first | (with_reducible assumption) | assumption)
      have hx6 := bt_at a0 (ji4)
      replace p6 := eq_true p6
      replace q6 := eq_true q6
      go_wp2_with (first | (go_at_call 94; (with_reducible refine (soundingsref04_digit.calls (bt a0 (ji4)) false _ A7.out).mono ?_); rintro e w' ⟨rfl, ⟨nd, rfl⟩⟩))
      go_ret
      exact ⟨by first | rfl | (simp; done) | (simp only [← hji4] <;> (first | rfl | simp)) | (simp [*]; done), by repeat (first | exact Drawn0.refl _ | apply Drawn0.step)⟩
    ·rw [if_neg c5] at H
     exact absurd H (by simp)
   ·rw [if_neg c3] at H
    have c3b0 : decide ((wrap64 (a1 + x5_1)) < (a0.size : Int)) = false := decide_eq_false c3
    clear c3
    obtain rfl := Option.some.inj H
    go_wp2
    go_ret
    exact ⟨by first | rfl | (simp; done) | (simp [*]; done), by repeat (first | exact Drawn0.refl _ | apply Drawn0.step)⟩

end Go.Proofs.YtjleceekccehoaaGreatDoor.Pr
end
