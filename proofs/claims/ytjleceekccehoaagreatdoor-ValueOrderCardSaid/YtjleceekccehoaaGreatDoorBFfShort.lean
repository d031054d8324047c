/- Texts of this session, cut down to what one claim needs and joined: FfShort. -/
import Derived.Test.YtjleceekccehoaaGreatDoorBFfNum
set_option linter.unusedVariables false
set_option linter.unusedSimpArgs false
namespace Go.Proofs.YtjleceekccehoaaGreatDoor.Pr
open Go.RowKit Go.Proofs.YtjleceekccehoaaGreatDoorW.PrintWords Go.Proofs.YtjleceekccehoaaGreatDoorW.PrintLast Go.Proofs.YtjleceekccehoaaGreatDoorW.PrintMore

def ndg (u d : Int) : Int := IntKind.u64.wrap (u + IntKind.u64.wrap d)
def flo (u : Int) : Int := IntKind.u64.wrap (u + 0) / 4
def cei (u : Int) : Int := IntKind.u64.wrap (u + 3) / 4
def rou (u : Int) : Int := IntKind.u64.wrap (IntKind.u64.wrap (u + 1) + Go.bits .and .u64 (u / 4) 1) / 4
theorem wrap_u64 (x : Int) : 0 ≤ IntKind.u64.wrap x ∧ IntKind.u64.wrap x ≤ 18446744073709551615 := by rw [IntKind.wrap_u64]; omega
theorem flo_bd (u : Int) : 0 ≤ flo u ∧ flo u ≤ 4611686018427387903 := by have := wrap_u64 (u + 0); unfold flo; omega
theorem cei_bd (u : Int) : 0 ≤ cei u ∧ cei u ≤ 4611686018427387903 := by have := wrap_u64 (u + 3); unfold cei; omega
theorem rou_bd (u : Int) : 0 ≤ rou u ∧ rou u ≤ 4611686018427387903 := by have := wrap_u64 (IntKind.u64.wrap (u + 1) + Go.bits .and .u64 (u / 4) 1); unfold rou; omega
theorem ndg_any (u d : Int) (w : World) : Calls Tryz.prog 134 #[.int .u64 u, .int .i64 d] w fun e w' => e = .returned (.int .u64 (ndg u d)) ∧ Drawn0 w w' := strconv_unrounded_nudge.calls u d _ w rfl
theorem flo_any (u : Int) (w : World) : Calls Tryz.prog 136 #[.int .u64 u] w fun e w' => e = .returned (.int .u64 (flo u)) ∧ Drawn0 w w' := strconv_unrounded_floor.calls u _ w rfl
theorem cei_any (u : Int) (w : World) : Calls Tryz.prog 135 #[.int .u64 u] w fun e w' => e = .returned (.int .u64 (cei u)) ∧ Drawn0 w w' := strconv_unrounded_ceil.calls u _ w rfl
theorem rou_any (u : Int) (w : World) : Calls Tryz.prog 137 #[.int .u64 u] w fun e w' => e = .returned (.int .u64 (rou u)) ∧ Drawn0 w w' := strconv_unrounded_round.calls u _ w rfl

/-- The end of shortFloat. -/
def shFin (m e p mn mx odd : Int) : Int × Int :=
  let h := hiT (p + 348).toNat
  let l := loT (p + 348).toNat
  let s := preS e (l2 p)
  let dmin := cei (ndg (usc mn h l s) odd)
  let dmax := flo (ndg (usc mx h l s) (-odd))
  if dmin ≤ dmax / 10 * 10 then (dmax / 10, -(p - 1)) else if dmin < dmax then (rou (usc m h l s), -p) else (dmin, -p)
/-- The power, and the two ends. -/
def shTop (m e : Int) : Int × Int × Int × Int :=
  if m = 9223372036854775808 ∧ -1085 < e then (-(skw (e + 11)), IntKind.u64.wrap (m - 512), IntKind.u64.wrap (m + 1024), Go.bits .and .i64 (m / 2048) 1)
  else if -1085 ≤ e then (-(l10 (e + 11)), IntKind.u64.wrap (m - 1024), IntKind.u64.wrap (m + 1024), Go.bits .and .i64 (m / 2048) 1)
  else (-(l10 (e + (11 + (-1085 - e)))), IntKind.u64.wrap (m - IntKind.u64.wrap (2 ^ ((11 + (-1085 - e)).toNat - 1))), IntKind.u64.wrap (m + IntKind.u64.wrap (2 ^ ((11 + (-1085 - e)).toNat - 1))), Go.bits .and .i64 (wrap64 (m / 2 ^ (11 + (-1085 - e)).toNat)) 1)
def shV (m e : Int) : Int × Int := shFin m e (shTop m e).1 (shTop m e).2.1 (shTop m e).2.2.1 (shTop m e).2.2.2

theorem l10_bd2 (x : Int) (h0 : -1074 ≤ x) (h1 : x ≤ 971) : -324 ≤ l10 x ∧ l10 x ≤ 292 := by
  have e : wrap64 (x * 78913) = x * 78913 := by unfold wrap64; omega
  unfold l10; rw [e]; omega
theorem skw_bd (x : Int) (h0 : -1074 ≤ x) (h1 : x ≤ 971) : -324 ≤ skw x ∧ skw x ≤ 292 := by
  have e1 : wrap64 (x * 631305) = x * 631305 := by unfold wrap64; omega
  have e2 : wrap64 (x * 631305 - 261663) = x * 631305 - 261663 := by unfold wrap64; omega
  unfold skw; rw [e1, e2]; omega

-- WALKS
theorem and1_bd (x : Int) : 0 ≤ Go.bits .and .i64 x 1 ∧ Go.bits .and .i64 x 1 ≤ 1 := by
  have h : ((BitVec.ofInt 64 x) &&& (BitVec.ofInt 64 1)).toNat ≤ 1 := by rw [BitVec.toNat_and]; exact Nat.and_le_right
  show 0 ≤ IntKind.i64.wrap (((BitVec.ofInt 64 x) &&& (BitVec.ofInt 64 1)).toNat : Nat) ∧ IntKind.i64.wrap (((BitVec.ofInt 64 x) &&& (BitVec.ofInt 64 1)).toNat : Nat) ≤ 1
  rw [IntWalk.i64_in _ (by omega)]; omega

set_option maxHeartbeats 4000000 in
set_option maxRecDepth 100000 in
theorem short_b2 (m e : Int) (h0 : 0 ≤ m) (h1 : m ≤ 18446744073709551615) (he0 : -1085 ≤ e) (he1 : e ≤ 960) (hm : (m == 9223372036854775808) = false) (w : World) (hL : LaidF w) :
    Calls Tryz.prog 109 #[.int .u64 m, .int .i64 e] w fun e_ w' => e_ = .returned (.tuple #[.int .u64 (shFin m e (-l10 (e + 11)) (IntKind.u64.wrap (m - 1024)) (IntKind.u64.wrap (m + 1024)) (Go.bits .and .i64 (m / 2048) 1)).1, .int .i64 (shFin m e (-l10 (e + 11)) (IntKind.u64.wrap (m - 1024)) (IntKind.u64.wrap (m + 1024)) (Go.bits .and .i64 (m / 2048) 1)).2]) ∧ Below w.heap.size w w' := by
  have hp := l10_bd2 (e + 11) (by omega) (by omega)
  obtain ⟨q, hq⟩ : ∃ q_, l10 (e + 11) = q_ := ⟨_, rfl⟩
  rw [hq] at hp ⊢
  have HQ := Aside0.mk hq
  obtain ⟨z0, z1⟩ := hp
  clear hq
  obtain ⟨mn, hmn⟩ : ∃ q_, IntKind.u64.wrap (m - 1024) = q_ := ⟨_, rfl⟩
  obtain ⟨mx, hmx⟩ : ∃ q_, IntKind.u64.wrap (m + 1024) = q_ := ⟨_, rfl⟩
  have ho := and1_bd (m / 2048)
  obtain ⟨o, hod⟩ : ∃ q_, Go.bits .and .i64 (m / 2048) 1 = q_ := ⟨_, rfl⟩
  rw [hod] at ho
  rw [hmn, hmx, hod]
  obtain ⟨dmin, hdmin⟩ : ∃ q_, cei (ndg (usc mn (hiT (-q + 348).toNat) (loT (-q + 348).toNat) (preS e (l2 (-q)))) o) = q_ := ⟨_, rfl⟩
  obtain ⟨dmax, hdmax⟩ : ∃ q_, flo (ndg (usc mx (hiT (-q + 348).toNat) (loT (-q + 348).toNat) (preS e (l2 (-q)))) (-o)) = q_ := ⟨_, rfl⟩
  have bn := cei_bd (ndg (usc mn (hiT (-q + 348).toNat) (loT (-q + 348).toNat) (preS e (l2 (-q)))) o)
  have bx := flo_bd (ndg (usc mx (hiT (-q + 348).toNat) (loT (-q + 348).toNat) (preS e (l2 (-q)))) (-o))
  rw [hdmin] at bn
  rw [hdmax] at bx
  have HN := Aside0.mk hdmin
  have HX := Aside0.mk hdmax
  have HL := Aside0.mk hL
  clear hL hdmin hdmax
  obtain ⟨o0, o1⟩ := ho
  obtain ⟨n0, n1⟩ := bn
  obtain ⟨x0, x1⟩ := bx
  by_cases c1 : dmin ≤ dmax / 10 * 10
  · have HS : Aside0 (shFin m e (-q) mn mx o = (dmax / 10, -(-q - 1))) := ⟨by unfold shFin; simp only [HN.out, HX.out]; rw [if_pos c1]⟩
    rw [HS.out]
    clear HS
    have t1 : decide (dmin ≤ dmax / 10 * 10) = true := decide_eq_true c1
    clear c1
    go_enter Tryz.func109, Tryz.ntmps109
    go_wp2_with (first | (go_at_call 104; refine (l10_any _ _).mono ?_; (try rw [HQ.out]); rintro e_ w' ⟨rfl, ⟨mq, rfl⟩⟩) | (go_at_call 130; refine (skw_any _ _).mono ?_; (try rw [HQ.out]); rintro e_ w' ⟨rfl, ⟨mq, rfl⟩⟩) | (go_at_call 132; refine (l2_any _ _).mono ?_; rintro e_ w' ⟨rfl, ⟨mq, rfl⟩⟩) | (go_at_call 131; refine (prescale_any _ _ _ _ _ _ _ (by omega) (by omega) w _ (IsS186.drewN (IsS186.new w _ 0 0 0 (by repeat (first | (with_reducible first | exact Below.refl _ _ | apply pw_below_drewN | apply below_drew1 | apply below_alloc) | exact Below.refl _ _))) _) (by repeat (first | (with_reducible first | exact Below.refl _ _ | apply pw_below_drewN | apply below_drew1 | apply below_alloc) | exact Below.refl _ _)) HL.out).mono ?_; rintro e_ w' ⟨rfl, hi_, hb_⟩; have HI := Aside0.mk hi_; have HB := Aside0.mk hb_; clear hi_ hb_) | (go_at_call 133; refine (uscale_any _ _ _ _ _ w _ (by repeat (first | (with_reducible first | exact HI.out | apply IsS186.drewN) | exact HI.out)) (by repeat (first | (with_reducible first | exact HB.out | exact Below.refl _ _ | apply pw_below_drewN | apply below_drew1 | apply below_alloc) | exact HB.out | exact Below.refl _ _))).mono ?_; rintro e_ w' ⟨rfl, hi_, hb_⟩; have n0_ := Aside0.mk hi_; have n1_ := Aside0.mk hb_; clear HI HB hi_ hb_; have HI := n0_; have HB := n1_; clear n0_ n1_) | (go_at_call 134; refine (ndg_any _ _ _).mono ?_; rintro e_ w' ⟨rfl, ⟨mq, rfl⟩⟩) | (go_at_call 135; refine (cei_any _ _).mono ?_; (try rw [HN.out]); rintro e_ w' ⟨rfl, ⟨mq, rfl⟩⟩) | (go_at_call 136; refine (flo_any _ _).mono ?_; (try rw [HX.out]); rintro e_ w' ⟨rfl, ⟨mq, rfl⟩⟩) | (go_at_call 137; refine (rou_any _ _).mono ?_; rintro e_ w' ⟨rfl, ⟨mq, rfl⟩⟩))
    go_ret2
    exact ⟨by first | rfl | (rw [Int.neg_neg]; rfl) | (simp; done), (by repeat (first | (with_reducible first | exact HB.out | exact Below.refl _ _ | apply pw_below_drewN | apply below_drew1 | apply below_alloc) | exact HB.out | exact Below.refl _ _))⟩
  · have t1 : decide (dmin ≤ dmax / 10 * 10) = false := decide_eq_false c1
    by_cases c2 : dmin < dmax
    · have HS : Aside0 (shFin m e (-q) mn mx o = (rou (usc m (hiT (-q + 348).toNat) (loT (-q + 348).toNat) (preS e (l2 (-q)))), -(-q))) := ⟨by unfold shFin; simp only [HN.out, HX.out]; rw [if_neg c1, if_pos c2]⟩
      rw [HS.out]
      clear HS
      have t2 : decide (dmin < dmax) = true := decide_eq_true c2
      clear c1 c2
      go_enter Tryz.func109, Tryz.ntmps109
      go_wp2_with (first | (go_at_call 104; refine (l10_any _ _).mono ?_; (try rw [HQ.out]); rintro e_ w' ⟨rfl, ⟨mq, rfl⟩⟩) | (go_at_call 130; refine (skw_any _ _).mono ?_; (try rw [HQ.out]); rintro e_ w' ⟨rfl, ⟨mq, rfl⟩⟩) | (go_at_call 132; refine (l2_any _ _).mono ?_; rintro e_ w' ⟨rfl, ⟨mq, rfl⟩⟩) | (go_at_call 131; refine (prescale_any _ _ _ _ _ _ _ (by omega) (by omega) w _ (IsS186.drewN (IsS186.new w _ 0 0 0 (by repeat (first | (with_reducible first | exact Below.refl _ _ | apply pw_below_drewN | apply below_drew1 | apply below_alloc) | exact Below.refl _ _))) _) (by repeat (first | (with_reducible first | exact Below.refl _ _ | apply pw_below_drewN | apply below_drew1 | apply below_alloc) | exact Below.refl _ _)) HL.out).mono ?_; rintro e_ w' ⟨rfl, hi_, hb_⟩; have HI := Aside0.mk hi_; have HB := Aside0.mk hb_; clear hi_ hb_) | (go_at_call 133; refine (uscale_any _ _ _ _ _ w _ (by repeat (first | (with_reducible first | exact HI.out | apply IsS186.drewN) | exact HI.out)) (by repeat (first | (with_reducible first | exact HB.out | exact Below.refl _ _ | apply pw_below_drewN | apply below_drew1 | apply below_alloc) | exact HB.out | exact Below.refl _ _))).mono ?_; rintro e_ w' ⟨rfl, hi_, hb_⟩; have n0_ := Aside0.mk hi_; have n1_ := Aside0.mk hb_; clear HI HB hi_ hb_; have HI := n0_; have HB := n1_; clear n0_ n1_) | (go_at_call 134; refine (ndg_any _ _ _).mono ?_; rintro e_ w' ⟨rfl, ⟨mq, rfl⟩⟩) | (go_at_call 135; refine (cei_any _ _).mono ?_; (try rw [HN.out]); rintro e_ w' ⟨rfl, ⟨mq, rfl⟩⟩) | (go_at_call 136; refine (flo_any _ _).mono ?_; (try rw [HX.out]); rintro e_ w' ⟨rfl, ⟨mq, rfl⟩⟩) | (go_at_call 137; refine (rou_any _ _).mono ?_; rintro e_ w' ⟨rfl, ⟨mq, rfl⟩⟩))
      go_ret2
      exact ⟨by first | rfl | (rw [Int.neg_neg]; rfl) | (simp; done), (by repeat (first | (with_reducible first | exact HB.out | exact Below.refl _ _ | apply pw_below_drewN | apply below_drew1 | apply below_alloc) | exact HB.out | exact Below.refl _ _))⟩
    · have HS : Aside0 (shFin m e (-q) mn mx o = (dmin, -(-q))) := ⟨by unfold shFin; simp only [HN.out, HX.out]; rw [if_neg c1, if_neg c2]⟩
      rw [HS.out]
      clear HS
      have t2 : decide (dmin < dmax) = false := decide_eq_false c2
      clear c1 c2
      go_enter Tryz.func109, Tryz.ntmps109
      go_wp2_with (first | (go_at_call 104; refine (l10_any _ _).mono ?_; (try rw [HQ.out]); rintro e_ w' ⟨rfl, ⟨mq, rfl⟩⟩) | (go_at_call 130; refine (skw_any _ _).mono ?_; (try rw [HQ.out]); rintro e_ w' ⟨rfl, ⟨mq, rfl⟩⟩) | (go_at_call 132; refine (l2_any _ _).mono ?_; rintro e_ w' ⟨rfl, ⟨mq, rfl⟩⟩) | (go_at_call 131; refine (prescale_any _ _ _ _ _ _ _ (by omega) (by omega) w _ (IsS186.drewN (IsS186.new w _ 0 0 0 (by repeat (first | (with_reducible first | exact Below.refl _ _ | apply pw_below_drewN | apply below_drew1 | apply below_alloc) | exact Below.refl _ _))) _) (by repeat (first | (with_reducible first | exact Below.refl _ _ | apply pw_below_drewN | apply below_drew1 | apply below_alloc) | exact Below.refl _ _)) HL.out).mono ?_; rintro e_ w' ⟨rfl, hi_, hb_⟩; have HI := Aside0.mk hi_; have HB := Aside0.mk hb_; clear hi_ hb_) | (go_at_call 133; refine (uscale_any _ _ _ _ _ w _ (by repeat (first | (with_reducible first | exact HI.out | apply IsS186.drewN) | exact HI.out)) (by repeat (first | (with_reducible first | exact HB.out | exact Below.refl _ _ | apply pw_below_drewN | apply below_drew1 | apply below_alloc) | exact HB.out | exact Below.refl _ _))).mono ?_; rintro e_ w' ⟨rfl, hi_, hb_⟩; have n0_ := Aside0.mk hi_; have n1_ := Aside0.mk hb_; clear HI HB hi_ hb_; have HI := n0_; have HB := n1_; clear n0_ n1_) | (go_at_call 134; refine (ndg_any _ _ _).mono ?_; rintro e_ w' ⟨rfl, ⟨mq, rfl⟩⟩) | (go_at_call 135; refine (cei_any _ _).mono ?_; (try rw [HN.out]); rintro e_ w' ⟨rfl, ⟨mq, rfl⟩⟩) | (go_at_call 136; refine (flo_any _ _).mono ?_; (try rw [HX.out]); rintro e_ w' ⟨rfl, ⟨mq, rfl⟩⟩) | (go_at_call 137; refine (rou_any _ _).mono ?_; rintro e_ w' ⟨rfl, ⟨mq, rfl⟩⟩))
      go_ret2
      exact ⟨by first | rfl | (rw [Int.neg_neg]; rfl) | (simp; done), (by repeat (first | (with_reducible first | exact HB.out | exact Below.refl _ _ | apply pw_below_drewN | apply below_drew1 | apply below_alloc) | exact HB.out | exact Below.refl _ _))⟩

set_option maxHeartbeats 4000000 in
set_option maxRecDepth 100000 in
theorem short_b4 (m e : Int) (h0 : 0 ≤ m) (h1 : m ≤ 18446744073709551615) (he0 : -1085 ≤ e) (he1 : e ≤ -1085) (hm : (m == 9223372036854775808) = true) (w : World) (hL : LaidF w) :
    Calls Tryz.prog 109 #[.int .u64 m, .int .i64 e] w fun e_ w' => e_ = .returned (.tuple #[.int .u64 (shFin m e (-l10 (e + 11)) (IntKind.u64.wrap (m - 1024)) (IntKind.u64.wrap (m + 1024)) (Go.bits .and .i64 (m / 2048) 1)).1, .int .i64 (shFin m e (-l10 (e + 11)) (IntKind.u64.wrap (m - 1024)) (IntKind.u64.wrap (m + 1024)) (Go.bits .and .i64 (m / 2048) 1)).2]) ∧ Below w.heap.size w w' := by
  have hp := l10_bd2 (e + 11) (by omega) (by omega)
  obtain ⟨q, hq⟩ : ∃ q_, l10 (e + 11) = q_ := ⟨_, rfl⟩
  rw [hq] at hp ⊢
  have HQ := Aside0.mk hq
  obtain ⟨z0, z1⟩ := hp
  clear hq
  obtain ⟨mn, hmn⟩ : ∃ q_, IntKind.u64.wrap (m - 1024) = q_ := ⟨_, rfl⟩
  obtain ⟨mx, hmx⟩ : ∃ q_, IntKind.u64.wrap (m + 1024) = q_ := ⟨_, rfl⟩
  have ho := and1_bd (m / 2048)
  obtain ⟨o, hod⟩ : ∃ q_, Go.bits .and .i64 (m / 2048) 1 = q_ := ⟨_, rfl⟩
  rw [hod] at ho
  rw [hmn, hmx, hod]
  obtain ⟨dmin, hdmin⟩ : ∃ q_, cei (ndg (usc mn (hiT (-q + 348).toNat) (loT (-q + 348).toNat) (preS e (l2 (-q)))) o) = q_ := ⟨_, rfl⟩
  obtain ⟨dmax, hdmax⟩ : ∃ q_, flo (ndg (usc mx (hiT (-q + 348).toNat) (loT (-q + 348).toNat) (preS e (l2 (-q)))) (-o)) = q_ := ⟨_, rfl⟩
  have bn := cei_bd (ndg (usc mn (hiT (-q + 348).toNat) (loT (-q + 348).toNat) (preS e (l2 (-q)))) o)
  have bx := flo_bd (ndg (usc mx (hiT (-q + 348).toNat) (loT (-q + 348).toNat) (preS e (l2 (-q)))) (-o))
  rw [hdmin] at bn
  rw [hdmax] at bx
  have HN := Aside0.mk hdmin
  have HX := Aside0.mk hdmax
  have HL := Aside0.mk hL
  clear hL hdmin hdmax
  obtain ⟨o0, o1⟩ := ho
  obtain ⟨n0, n1⟩ := bn
  obtain ⟨x0, x1⟩ := bx
  by_cases c1 : dmin ≤ dmax / 10 * 10
  · have HS : Aside0 (shFin m e (-q) mn mx o = (dmax / 10, -(-q - 1))) := ⟨by unfold shFin; simp only [HN.out, HX.out]; rw [if_pos c1]⟩
    rw [HS.out]
    clear HS
    have t1 : decide (dmin ≤ dmax / 10 * 10) = true := decide_eq_true c1
    clear c1
    go_enter Tryz.func109, Tryz.ntmps109
    go_wp2_with (first | (go_at_call 104; refine (l10_any _ _).mono ?_; (try rw [HQ.out]); rintro e_ w' ⟨rfl, ⟨mq, rfl⟩⟩) | (go_at_call 130; refine (skw_any _ _).mono ?_; (try rw [HQ.out]); rintro e_ w' ⟨rfl, ⟨mq, rfl⟩⟩) | (go_at_call 132; refine (l2_any _ _).mono ?_; rintro e_ w' ⟨rfl, ⟨mq, rfl⟩⟩) | (go_at_call 131; refine (prescale_any _ _ _ _ _ _ _ (by omega) (by omega) w _ (IsS186.drewN (IsS186.new w _ 0 0 0 (by repeat (first | (with_reducible first | exact Below.refl _ _ | apply pw_below_drewN | apply below_drew1 | apply below_alloc) | exact Below.refl _ _))) _) (by repeat (first | (with_reducible first | exact Below.refl _ _ | apply pw_below_drewN | apply below_drew1 | apply below_alloc) | exact Below.refl _ _)) HL.out).mono ?_; rintro e_ w' ⟨rfl, hi_, hb_⟩; have HI := Aside0.mk hi_; have HB := Aside0.mk hb_; clear hi_ hb_) | (go_at_call 133; refine (uscale_any _ _ _ _ _ w _ (by repeat (first | (with_reducible first | exact HI.out | apply IsS186.drewN) | exact HI.out)) (by repeat (first | (with_reducible first | exact HB.out | exact Below.refl _ _ | apply pw_below_drewN | apply below_drew1 | apply below_alloc) | exact HB.out | exact Below.refl _ _))).mono ?_; rintro e_ w' ⟨rfl, hi_, hb_⟩; have n0_ := Aside0.mk hi_; have n1_ := Aside0.mk hb_; clear HI HB hi_ hb_; have HI := n0_; have HB := n1_; clear n0_ n1_) | (go_at_call 134; refine (ndg_any _ _ _).mono ?_; rintro e_ w' ⟨rfl, ⟨mq, rfl⟩⟩) | (go_at_call 135; refine (cei_any _ _).mono ?_; (try rw [HN.out]); rintro e_ w' ⟨rfl, ⟨mq, rfl⟩⟩) | (go_at_call 136; refine (flo_any _ _).mono ?_; (try rw [HX.out]); rintro e_ w' ⟨rfl, ⟨mq, rfl⟩⟩) | (go_at_call 137; refine (rou_any _ _).mono ?_; rintro e_ w' ⟨rfl, ⟨mq, rfl⟩⟩))
    go_ret2
    exact ⟨by first | rfl | (rw [Int.neg_neg]; rfl) | (simp; done), (by repeat (first | (with_reducible first | exact HB.out | exact Below.refl _ _ | apply pw_below_drewN | apply below_drew1 | apply below_alloc) | exact HB.out | exact Below.refl _ _))⟩
  · have t1 : decide (dmin ≤ dmax / 10 * 10) = false := decide_eq_false c1
    by_cases c2 : dmin < dmax
    · have HS : Aside0 (shFin m e (-q) mn mx o = (rou (usc m (hiT (-q + 348).toNat) (loT (-q + 348).toNat) (preS e (l2 (-q)))), -(-q))) := ⟨by unfold shFin; simp only [HN.out, HX.out]; rw [if_neg c1, if_pos c2]⟩
      rw [HS.out]
      clear HS
      have t2 : decide (dmin < dmax) = true := decide_eq_true c2
      clear c1 c2
      go_enter Tryz.func109, Tryz.ntmps109
      go_wp2_with (first | (go_at_call 104; refine (l10_any _ _).mono ?_; (try rw [HQ.out]); rintro e_ w' ⟨rfl, ⟨mq, rfl⟩⟩) | (go_at_call 130; refine (skw_any _ _).mono ?_; (try rw [HQ.out]); rintro e_ w' ⟨rfl, ⟨mq, rfl⟩⟩) | (go_at_call 132; refine (l2_any _ _).mono ?_; rintro e_ w' ⟨rfl, ⟨mq, rfl⟩⟩) | (go_at_call 131; refine (prescale_any _ _ _ _ _ _ _ (by omega) (by omega) w _ (IsS186.drewN (IsS186.new w _ 0 0 0 (by repeat (first | (with_reducible first | exact Below.refl _ _ | apply pw_below_drewN | apply below_drew1 | apply below_alloc) | exact Below.refl _ _))) _) (by repeat (first | (with_reducible first | exact Below.refl _ _ | apply pw_below_drewN | apply below_drew1 | apply below_alloc) | exact Below.refl _ _)) HL.out).mono ?_; rintro e_ w' ⟨rfl, hi_, hb_⟩; have HI := Aside0.mk hi_; have HB := Aside0.mk hb_; clear hi_ hb_) | (go_at_call 133; refine (uscale_any _ _ _ _ _ w _ (by repeat (first | (with_reducible first | exact HI.out | apply IsS186.drewN) | exact HI.out)) (by repeat (first | (with_reducible first | exact HB.out | exact Below.refl _ _ | apply pw_below_drewN | apply below_drew1 | apply below_alloc) | exact HB.out | exact Below.refl _ _))).mono ?_; rintro e_ w' ⟨rfl, hi_, hb_⟩; have n0_ := Aside0.mk hi_; have n1_ := Aside0.mk hb_; clear HI HB hi_ hb_; have HI := n0_; have HB := n1_; clear n0_ n1_) | (go_at_call 134; refine (ndg_any _ _ _).mono ?_; rintro e_ w' ⟨rfl, ⟨mq, rfl⟩⟩) | (go_at_call 135; refine (cei_any _ _).mono ?_; (try rw [HN.out]); rintro e_ w' ⟨rfl, ⟨mq, rfl⟩⟩) | (go_at_call 136; refine (flo_any _ _).mono ?_; (try rw [HX.out]); rintro e_ w' ⟨rfl, ⟨mq, rfl⟩⟩) | (go_at_call 137; refine (rou_any _ _).mono ?_; rintro e_ w' ⟨rfl, ⟨mq, rfl⟩⟩))
      go_ret2
      exact ⟨by first | rfl | (rw [Int.neg_neg]; rfl) | (simp; done), (by repeat (first | (with_reducible first | exact HB.out | exact Below.refl _ _ | apply pw_below_drewN | apply below_drew1 | apply below_alloc) | exact HB.out | exact Below.refl _ _))⟩
    · have HS : Aside0 (shFin m e (-q) mn mx o = (dmin, -(-q))) := ⟨by unfold shFin; simp only [HN.out, HX.out]; rw [if_neg c1, if_neg c2]⟩
      rw [HS.out]
      clear HS
      have t2 : decide (dmin < dmax) = false := decide_eq_false c2
      clear c1 c2
      go_enter Tryz.func109, Tryz.ntmps109
      go_wp2_with (first | (go_at_call 104; refine (l10_any _ _).mono ?_; (try rw [HQ.out]); rintro e_ w' ⟨rfl, ⟨mq, rfl⟩⟩) | (go_at_call 130; refine (skw_any _ _).mono ?_; (try rw [HQ.out]); rintro e_ w' ⟨rfl, ⟨mq, rfl⟩⟩) | (go_at_call 132; refine (l2_any _ _).mono ?_; rintro e_ w' ⟨rfl, ⟨mq, rfl⟩⟩) | (go_at_call 131; refine (prescale_any _ _ _ _ _ _ _ (by omega) (by omega) w _ (IsS186.drewN (IsS186.new w _ 0 0 0 (by repeat (first | (with_reducible first | exact Below.refl _ _ | apply pw_below_drewN | apply below_drew1 | apply below_alloc) | exact Below.refl _ _))) _) (by repeat (first | (with_reducible first | exact Below.refl _ _ | apply pw_below_drewN | apply below_drew1 | apply below_alloc) | exact Below.refl _ _)) HL.out).mono ?_; rintro e_ w' ⟨rfl, hi_, hb_⟩; have HI := Aside0.mk hi_; have HB := Aside0.mk hb_; clear hi_ hb_) | (go_at_call 133; refine (uscale_any _ _ _ _ _ w _ (by repeat (first | (with_reducible first | exact HI.out | apply IsS186.drewN) | exact HI.out)) (by repeat (first | (with_reducible first | exact HB.out | exact Below.refl _ _ | apply pw_below_drewN | apply below_drew1 | apply below_alloc) | exact HB.out | exact Below.refl _ _))).mono ?_; rintro e_ w' ⟨rfl, hi_, hb_⟩; have n0_ := Aside0.mk hi_; have n1_ := Aside0.mk hb_; clear HI HB hi_ hb_; have HI := n0_; have HB := n1_; clear n0_ n1_) | (go_at_call 134; refine (ndg_any _ _ _).mono ?_; rintro e_ w' ⟨rfl, ⟨mq, rfl⟩⟩) | (go_at_call 135; refine (cei_any _ _).mono ?_; (try rw [HN.out]); rintro e_ w' ⟨rfl, ⟨mq, rfl⟩⟩) | (go_at_call 136; refine (flo_any _ _).mono ?_; (try rw [HX.out]); rintro e_ w' ⟨rfl, ⟨mq, rfl⟩⟩) | (go_at_call 137; refine (rou_any _ _).mono ?_; rintro e_ w' ⟨rfl, ⟨mq, rfl⟩⟩))
      go_ret2
      exact ⟨by first | rfl | (rw [Int.neg_neg]; rfl) | (simp; done), (by repeat (first | (with_reducible first | exact HB.out | exact Below.refl _ _ | apply pw_below_drewN | apply below_drew1 | apply below_alloc) | exact HB.out | exact Below.refl _ _))⟩

set_option maxHeartbeats 4000000 in
set_option maxRecDepth 100000 in
theorem short_b1 (m e : Int) (h0 : 0 ≤ m) (h1 : m ≤ 18446744073709551615) (he0 : -1085 < e) (he1 : e ≤ 960) (hm : (m == 9223372036854775808) = true) (w : World) (hL : LaidF w) :
    Calls Tryz.prog 109 #[.int .u64 m, .int .i64 e] w fun e_ w' => e_ = .returned (.tuple #[.int .u64 (shFin m e (-skw (e + 11)) (IntKind.u64.wrap (m - 512)) (IntKind.u64.wrap (m + 1024)) (Go.bits .and .i64 (m / 2048) 1)).1, .int .i64 (shFin m e (-skw (e + 11)) (IntKind.u64.wrap (m - 512)) (IntKind.u64.wrap (m + 1024)) (Go.bits .and .i64 (m / 2048) 1)).2]) ∧ Below w.heap.size w w' := by
  have hp := skw_bd (e + 11) (by omega) (by omega)
  obtain ⟨q, hq⟩ : ∃ q_, skw (e + 11) = q_ := ⟨_, rfl⟩
  rw [hq] at hp ⊢
  have HQ := Aside0.mk hq
  obtain ⟨z0, z1⟩ := hp
  clear hq
  obtain ⟨mn, hmn⟩ : ∃ q_, IntKind.u64.wrap (m - 512) = q_ := ⟨_, rfl⟩
  obtain ⟨mx, hmx⟩ : ∃ q_, IntKind.u64.wrap (m + 1024) = q_ := ⟨_, rfl⟩
  have ho := and1_bd (m / 2048)
  obtain ⟨o, hod⟩ : ∃ q_, Go.bits .and .i64 (m / 2048) 1 = q_ := ⟨_, rfl⟩
  rw [hod] at ho
  rw [hmn, hmx, hod]
  obtain ⟨dmin, hdmin⟩ : ∃ q_, cei (ndg (usc mn (hiT (-q + 348).toNat) (loT (-q + 348).toNat) (preS e (l2 (-q)))) o) = q_ := ⟨_, rfl⟩
  obtain ⟨dmax, hdmax⟩ : ∃ q_, flo (ndg (usc mx (hiT (-q + 348).toNat) (loT (-q + 348).toNat) (preS e (l2 (-q)))) (-o)) = q_ := ⟨_, rfl⟩
  have bn := cei_bd (ndg (usc mn (hiT (-q + 348).toNat) (loT (-q + 348).toNat) (preS e (l2 (-q)))) o)
  have bx := flo_bd (ndg (usc mx (hiT (-q + 348).toNat) (loT (-q + 348).toNat) (preS e (l2 (-q)))) (-o))
  rw [hdmin] at bn
  rw [hdmax] at bx
  have HN := Aside0.mk hdmin
  have HX := Aside0.mk hdmax
  have HL := Aside0.mk hL
  clear hL hdmin hdmax
  obtain ⟨o0, o1⟩ := ho
  obtain ⟨n0, n1⟩ := bn
  obtain ⟨x0, x1⟩ := bx
  by_cases c1 : dmin ≤ dmax / 10 * 10
  · have HS : Aside0 (shFin m e (-q) mn mx o = (dmax / 10, -(-q - 1))) := ⟨by unfold shFin; simp only [HN.out, HX.out]; rw [if_pos c1]⟩
    rw [HS.out]
    clear HS
    have t1 : decide (dmin ≤ dmax / 10 * 10) = true := decide_eq_true c1
    clear c1
    go_enter Tryz.func109, Tryz.ntmps109
    go_wp2_with (first | (go_at_call 104; refine (l10_any _ _).mono ?_; (try rw [HQ.out]); rintro e_ w' ⟨rfl, ⟨mq, rfl⟩⟩) | (go_at_call 130; refine (skw_any _ _).mono ?_; (try rw [HQ.out]); rintro e_ w' ⟨rfl, ⟨mq, rfl⟩⟩) | (go_at_call 132; refine (l2_any _ _).mono ?_; rintro e_ w' ⟨rfl, ⟨mq, rfl⟩⟩) | (go_at_call 131; refine (prescale_any _ _ _ _ _ _ _ (by omega) (by omega) w _ (IsS186.drewN (IsS186.new w _ 0 0 0 (by repeat (first | (with_reducible first | exact Below.refl _ _ | apply pw_below_drewN | apply below_drew1 | apply below_alloc) | exact Below.refl _ _))) _) (by repeat (first | (with_reducible first | exact Below.refl _ _ | apply pw_below_drewN | apply below_drew1 | apply below_alloc) | exact Below.refl _ _)) HL.out).mono ?_; rintro e_ w' ⟨rfl, hi_, hb_⟩; have HI := Aside0.mk hi_; have HB := Aside0.mk hb_; clear hi_ hb_) | (go_at_call 133; refine (uscale_any _ _ _ _ _ w _ (by repeat (first | (with_reducible first | exact HI.out | apply IsS186.drewN) | exact HI.out)) (by repeat (first | (with_reducible first | exact HB.out | exact Below.refl _ _ | apply pw_below_drewN | apply below_drew1 | apply below_alloc) | exact HB.out | exact Below.refl _ _))).mono ?_; rintro e_ w' ⟨rfl, hi_, hb_⟩; have n0_ := Aside0.mk hi_; have n1_ := Aside0.mk hb_; clear HI HB hi_ hb_; have HI := n0_; have HB := n1_; clear n0_ n1_) | (go_at_call 134; refine (ndg_any _ _ _).mono ?_; rintro e_ w' ⟨rfl, ⟨mq, rfl⟩⟩) | (go_at_call 135; refine (cei_any _ _).mono ?_; (try rw [HN.out]); rintro e_ w' ⟨rfl, ⟨mq, rfl⟩⟩) | (go_at_call 136; refine (flo_any _ _).mono ?_; (try rw [HX.out]); rintro e_ w' ⟨rfl, ⟨mq, rfl⟩⟩) | (go_at_call 137; refine (rou_any _ _).mono ?_; rintro e_ w' ⟨rfl, ⟨mq, rfl⟩⟩))
    go_ret2
    exact ⟨by first | rfl | (rw [Int.neg_neg]; rfl) | (simp; done), (by repeat (first | (with_reducible first | exact HB.out | exact Below.refl _ _ | apply pw_below_drewN | apply below_drew1 | apply below_alloc) | exact HB.out | exact Below.refl _ _))⟩
  · have t1 : decide (dmin ≤ dmax / 10 * 10) = false := decide_eq_false c1
    by_cases c2 : dmin < dmax
    · have HS : Aside0 (shFin m e (-q) mn mx o = (rou (usc m (hiT (-q + 348).toNat) (loT (-q + 348).toNat) (preS e (l2 (-q)))), -(-q))) := ⟨by unfold shFin; simp only [HN.out, HX.out]; rw [if_neg c1, if_pos c2]⟩
      rw [HS.out]
      clear HS
      have t2 : decide (dmin < dmax) = true := decide_eq_true c2
      clear c1 c2
      go_enter Tryz.func109, Tryz.ntmps109
      go_wp2_with (first | (go_at_call 104; refine (l10_any _ _).mono ?_; (try rw [HQ.out]); rintro e_ w' ⟨rfl, ⟨mq, rfl⟩⟩) | (go_at_call 130; refine (skw_any _ _).mono ?_; (try rw [HQ.out]); rintro e_ w' ⟨rfl, ⟨mq, rfl⟩⟩) | (go_at_call 132; refine (l2_any _ _).mono ?_; rintro e_ w' ⟨rfl, ⟨mq, rfl⟩⟩) | (go_at_call 131; refine (prescale_any _ _ _ _ _ _ _ (by omega) (by omega) w _ (IsS186.drewN (IsS186.new w _ 0 0 0 (by repeat (first | (with_reducible first | exact Below.refl _ _ | apply pw_below_drewN | apply below_drew1 | apply below_alloc) | exact Below.refl _ _))) _) (by repeat (first | (with_reducible first | exact Below.refl _ _ | apply pw_below_drewN | apply below_drew1 | apply below_alloc) | exact Below.refl _ _)) HL.out).mono ?_; rintro e_ w' ⟨rfl, hi_, hb_⟩; have HI := Aside0.mk hi_; have HB := Aside0.mk hb_; clear hi_ hb_) | (go_at_call 133; refine (uscale_any _ _ _ _ _ w _ (by repeat (first | (with_reducible first | exact HI.out | apply IsS186.drewN) | exact HI.out)) (by repeat (first | (with_reducible first | exact HB.out | exact Below.refl _ _ | apply pw_below_drewN | apply below_drew1 | apply below_alloc) | exact HB.out | exact Below.refl _ _))).mono ?_; rintro e_ w' ⟨rfl, hi_, hb_⟩; have n0_ := Aside0.mk hi_; have n1_ := Aside0.mk hb_; clear HI HB hi_ hb_; have HI := n0_; have HB := n1_; clear n0_ n1_) | (go_at_call 134; refine (ndg_any _ _ _).mono ?_; rintro e_ w' ⟨rfl, ⟨mq, rfl⟩⟩) | (go_at_call 135; refine (cei_any _ _).mono ?_; (try rw [HN.out]); rintro e_ w' ⟨rfl, ⟨mq, rfl⟩⟩) | (go_at_call 136; refine (flo_any _ _).mono ?_; (try rw [HX.out]); rintro e_ w' ⟨rfl, ⟨mq, rfl⟩⟩) | (go_at_call 137; refine (rou_any _ _).mono ?_; rintro e_ w' ⟨rfl, ⟨mq, rfl⟩⟩))
      go_ret2
      exact ⟨by first | rfl | (rw [Int.neg_neg]; rfl) | (simp; done), (by repeat (first | (with_reducible first | exact HB.out | exact Below.refl _ _ | apply pw_below_drewN | apply below_drew1 | apply below_alloc) | exact HB.out | exact Below.refl _ _))⟩
    · have HS : Aside0 (shFin m e (-q) mn mx o = (dmin, -(-q))) := ⟨by unfold shFin; simp only [HN.out, HX.out]; rw [if_neg c1, if_neg c2]⟩
      rw [HS.out]
      clear HS
      have t2 : decide (dmin < dmax) = false := decide_eq_false c2
      clear c1 c2
      go_enter Tryz.func109, Tryz.ntmps109
      go_wp2_with (first | (go_at_call 104; refine (l10_any _ _).mono ?_; (try rw [HQ.out]); rintro e_ w' ⟨rfl, ⟨mq, rfl⟩⟩) | (go_at_call 130; refine (skw_any _ _).mono ?_; (try rw [HQ.out]); rintro e_ w' ⟨rfl, ⟨mq, rfl⟩⟩) | (go_at_call 132; refine (l2_any _ _).mono ?_; rintro e_ w' ⟨rfl, ⟨mq, rfl⟩⟩) | (go_at_call 131; refine (prescale_any _ _ _ _ _ _ _ (by omega) (by omega) w _ (IsS186.drewN (IsS186.new w _ 0 0 0 (by repeat (first | (with_reducible first | exact Below.refl _ _ | apply pw_below_drewN | apply below_drew1 | apply below_alloc) | exact Below.refl _ _))) _) (by repeat (first | (with_reducible first | exact Below.refl _ _ | apply pw_below_drewN | apply below_drew1 | apply below_alloc) | exact Below.refl _ _)) HL.out).mono ?_; rintro e_ w' ⟨rfl, hi_, hb_⟩; have HI := Aside0.mk hi_; have HB := Aside0.mk hb_; clear hi_ hb_) | (go_at_call 133; refine (uscale_any _ _ _ _ _ w _ (by repeat (first | (with_reducible first | exact HI.out | apply IsS186.drewN) | exact HI.out)) (by repeat (first | (with_reducible first | exact HB.out | exact Below.refl _ _ | apply pw_below_drewN | apply below_drew1 | apply below_alloc) | exact HB.out | exact Below.refl _ _))).mono ?_; rintro e_ w' ⟨rfl, hi_, hb_⟩; have n0_ := Aside0.mk hi_; have n1_ := Aside0.mk hb_; clear HI HB hi_ hb_; have HI := n0_; have HB := n1_; clear n0_ n1_) | (go_at_call 134; refine (ndg_any _ _ _).mono ?_; rintro e_ w' ⟨rfl, ⟨mq, rfl⟩⟩) | (go_at_call 135; refine (cei_any _ _).mono ?_; (try rw [HN.out]); rintro e_ w' ⟨rfl, ⟨mq, rfl⟩⟩) | (go_at_call 136; refine (flo_any _ _).mono ?_; (try rw [HX.out]); rintro e_ w' ⟨rfl, ⟨mq, rfl⟩⟩) | (go_at_call 137; refine (rou_any _ _).mono ?_; rintro e_ w' ⟨rfl, ⟨mq, rfl⟩⟩))
      go_ret2
      exact ⟨by first | rfl | (rw [Int.neg_neg]; rfl) | (simp; done), (by repeat (first | (with_reducible first | exact HB.out | exact Below.refl _ _ | apply pw_below_drewN | apply below_drew1 | apply below_alloc) | exact HB.out | exact Below.refl _ _))⟩

set_option maxHeartbeats 4000000 in
set_option maxRecDepth 100000 in
theorem short_b3 (m e : Int) (h0 : 0 ≤ m) (h1 : m ≤ 18446744073709551615) (he0 : -1137 ≤ e) (he1 : e < -1085) (hm : (m == 9223372036854775808) = false) (w : World) (hL : LaidF w) :
    Calls Tryz.prog 109 #[.int .u64 m, .int .i64 e] w fun e_ w' => e_ = .returned (.tuple #[.int .u64 (shFin m e (-l10 (e + (11 + (-1085 - e)))) (IntKind.u64.wrap (m - IntKind.u64.wrap (2 ^ ((11 + (-1085 - e)).toNat - 1)))) (IntKind.u64.wrap (m + IntKind.u64.wrap (2 ^ ((11 + (-1085 - e)).toNat - 1)))) (Go.bits .and .i64 (wrap64 (m / 2 ^ (11 + (-1085 - e)).toNat)) 1)).1, .int .i64 (shFin m e (-l10 (e + (11 + (-1085 - e)))) (IntKind.u64.wrap (m - IntKind.u64.wrap (2 ^ ((11 + (-1085 - e)).toNat - 1)))) (IntKind.u64.wrap (m + IntKind.u64.wrap (2 ^ ((11 + (-1085 - e)).toNat - 1)))) (Go.bits .and .i64 (wrap64 (m / 2 ^ (11 + (-1085 - e)).toNat)) 1)).2]) ∧ Below w.heap.size w w' := by
  have hp := l10_bd2 (e + (11 + (-1085 - e))) (by omega) (by omega)
  obtain ⟨q, hq⟩ : ∃ q_, l10 (e + (11 + (-1085 - e))) = q_ := ⟨_, rfl⟩
  rw [hq] at hp ⊢
  have HQ := Aside0.mk hq
  obtain ⟨z0, z1⟩ := hp
  clear hq
  obtain ⟨mn, hmn⟩ : ∃ q_, IntKind.u64.wrap (m - IntKind.u64.wrap (2 ^ ((11 + (-1085 - e)).toNat - 1))) = q_ := ⟨_, rfl⟩
  obtain ⟨mx, hmx⟩ : ∃ q_, IntKind.u64.wrap (m + IntKind.u64.wrap (2 ^ ((11 + (-1085 - e)).toNat - 1))) = q_ := ⟨_, rfl⟩
  have ho := and1_bd (wrap64 (m / 2 ^ (11 + (-1085 - e)).toNat))
  obtain ⟨o, hod⟩ : ∃ q_, Go.bits .and .i64 (wrap64 (m / 2 ^ (11 + (-1085 - e)).toNat)) 1 = q_ := ⟨_, rfl⟩
  rw [hod] at ho
  rw [hmn, hmx, hod]
  obtain ⟨dmin, hdmin⟩ : ∃ q_, cei (ndg (usc mn (hiT (-q + 348).toNat) (loT (-q + 348).toNat) (preS e (l2 (-q)))) o) = q_ := ⟨_, rfl⟩
  obtain ⟨dmax, hdmax⟩ : ∃ q_, flo (ndg (usc mx (hiT (-q + 348).toNat) (loT (-q + 348).toNat) (preS e (l2 (-q)))) (-o)) = q_ := ⟨_, rfl⟩
  have bn := cei_bd (ndg (usc mn (hiT (-q + 348).toNat) (loT (-q + 348).toNat) (preS e (l2 (-q)))) o)
  have bx := flo_bd (ndg (usc mx (hiT (-q + 348).toNat) (loT (-q + 348).toNat) (preS e (l2 (-q)))) (-o))
  rw [hdmin] at bn
  rw [hdmax] at bx
  have HN := Aside0.mk hdmin
  have HX := Aside0.mk hdmax
  have HL := Aside0.mk hL
  clear hL hdmin hdmax
  obtain ⟨o0, o1⟩ := ho
  obtain ⟨n0, n1⟩ := bn
  obtain ⟨x0, x1⟩ := bx
  by_cases c1 : dmin ≤ dmax / 10 * 10
  · have HS : Aside0 (shFin m e (-q) mn mx o = (dmax / 10, -(-q - 1))) := ⟨by unfold shFin; simp only [HN.out, HX.out]; rw [if_pos c1]⟩
    rw [HS.out]
    clear HS
    have t1 : decide (dmin ≤ dmax / 10 * 10) = true := decide_eq_true c1
    clear c1
    go_enter Tryz.func109, Tryz.ntmps109
    go_wp2_with (first | (go_at_call 104; refine (l10_any _ _).mono ?_; (try rw [HQ.out]); rintro e_ w' ⟨rfl, ⟨mq, rfl⟩⟩) | (go_at_call 130; refine (skw_any _ _).mono ?_; (try rw [HQ.out]); rintro e_ w' ⟨rfl, ⟨mq, rfl⟩⟩) | (go_at_call 132; refine (l2_any _ _).mono ?_; rintro e_ w' ⟨rfl, ⟨mq, rfl⟩⟩) | (go_at_call 131; refine (prescale_any _ _ _ _ _ _ _ (by omega) (by omega) w _ (IsS186.drewN (IsS186.new w _ 0 0 0 (by repeat (first | (with_reducible first | exact Below.refl _ _ | apply pw_below_drewN | apply below_drew1 | apply below_alloc) | exact Below.refl _ _))) _) (by repeat (first | (with_reducible first | exact Below.refl _ _ | apply pw_below_drewN | apply below_drew1 | apply below_alloc) | exact Below.refl _ _)) HL.out).mono ?_; rintro e_ w' ⟨rfl, hi_, hb_⟩; have HI := Aside0.mk hi_; have HB := Aside0.mk hb_; clear hi_ hb_) | (go_at_call 133; refine (uscale_any _ _ _ _ _ w _ (by repeat (first | (with_reducible first | exact HI.out | apply IsS186.drewN) | exact HI.out)) (by repeat (first | (with_reducible first | exact HB.out | exact Below.refl _ _ | apply pw_below_drewN | apply below_drew1 | apply below_alloc) | exact HB.out | exact Below.refl _ _))).mono ?_; rintro e_ w' ⟨rfl, hi_, hb_⟩; have n0_ := Aside0.mk hi_; have n1_ := Aside0.mk hb_; clear HI HB hi_ hb_; have HI := n0_; have HB := n1_; clear n0_ n1_) | (go_at_call 134; refine (ndg_any _ _ _).mono ?_; rintro e_ w' ⟨rfl, ⟨mq, rfl⟩⟩) | (go_at_call 135; refine (cei_any _ _).mono ?_; (try rw [HN.out]); rintro e_ w' ⟨rfl, ⟨mq, rfl⟩⟩) | (go_at_call 136; refine (flo_any _ _).mono ?_; (try rw [HX.out]); rintro e_ w' ⟨rfl, ⟨mq, rfl⟩⟩) | (go_at_call 137; refine (rou_any _ _).mono ?_; rintro e_ w' ⟨rfl, ⟨mq, rfl⟩⟩))
    go_ret2
    exact ⟨by first | rfl | (rw [Int.neg_neg]; rfl) | (simp; done), (by repeat (first | (with_reducible first | exact HB.out | exact Below.refl _ _ | apply pw_below_drewN | apply below_drew1 | apply below_alloc) | exact HB.out | exact Below.refl _ _))⟩
  · have t1 : decide (dmin ≤ dmax / 10 * 10) = false := decide_eq_false c1
    by_cases c2 : dmin < dmax
    · have HS : Aside0 (shFin m e (-q) mn mx o = (rou (usc m (hiT (-q + 348).toNat) (loT (-q + 348).toNat) (preS e (l2 (-q)))), -(-q))) := ⟨by unfold shFin; simp only [HN.out, HX.out]; rw [if_neg c1, if_pos c2]⟩
      rw [HS.out]
      clear HS
      have t2 : decide (dmin < dmax) = true := decide_eq_true c2
      clear c1 c2
      go_enter Tryz.func109, Tryz.ntmps109
      go_wp2_with (first | (go_at_call 104; refine (l10_any _ _).mono ?_; (try rw [HQ.out]); rintro e_ w' ⟨rfl, ⟨mq, rfl⟩⟩) | (go_at_call 130; refine (skw_any _ _).mono ?_; (try rw [HQ.out]); rintro e_ w' ⟨rfl, ⟨mq, rfl⟩⟩) | (go_at_call 132; refine (l2_any _ _).mono ?_; rintro e_ w' ⟨rfl, ⟨mq, rfl⟩⟩) | (go_at_call 131; refine (prescale_any _ _ _ _ _ _ _ (by omega) (by omega) w _ (IsS186.drewN (IsS186.new w _ 0 0 0 (by repeat (first | (with_reducible first | exact Below.refl _ _ | apply pw_below_drewN | apply below_drew1 | apply below_alloc) | exact Below.refl _ _))) _) (by repeat (first | (with_reducible first | exact Below.refl _ _ | apply pw_below_drewN | apply below_drew1 | apply below_alloc) | exact Below.refl _ _)) HL.out).mono ?_; rintro e_ w' ⟨rfl, hi_, hb_⟩; have HI := Aside0.mk hi_; have HB := Aside0.mk hb_; clear hi_ hb_) | (go_at_call 133; refine (uscale_any _ _ _ _ _ w _ (by repeat (first | (with_reducible first | exact HI.out | apply IsS186.drewN) | exact HI.out)) (by repeat (first | (with_reducible first | exact HB.out | exact Below.refl _ _ | apply pw_below_drewN | apply below_drew1 | apply below_alloc) | exact HB.out | exact Below.refl _ _))).mono ?_; rintro e_ w' ⟨rfl, hi_, hb_⟩; have n0_ := Aside0.mk hi_; have n1_ := Aside0.mk hb_; clear HI HB hi_ hb_; have HI := n0_; have HB := n1_; clear n0_ n1_) | (go_at_call 134; refine (ndg_any _ _ _).mono ?_; rintro e_ w' ⟨rfl, ⟨mq, rfl⟩⟩) | (go_at_call 135; refine (cei_any _ _).mono ?_; (try rw [HN.out]); rintro e_ w' ⟨rfl, ⟨mq, rfl⟩⟩) | (go_at_call 136; refine (flo_any _ _).mono ?_; (try rw [HX.out]); rintro e_ w' ⟨rfl, ⟨mq, rfl⟩⟩) | (go_at_call 137; refine (rou_any _ _).mono ?_; rintro e_ w' ⟨rfl, ⟨mq, rfl⟩⟩))
      go_ret2
      exact ⟨by first | rfl | (rw [Int.neg_neg]; rfl) | (simp; done), (by repeat (first | (with_reducible first | exact HB.out | exact Below.refl _ _ | apply pw_below_drewN | apply below_drew1 | apply below_alloc) | exact HB.out | exact Below.refl _ _))⟩
    · have HS : Aside0 (shFin m e (-q) mn mx o = (dmin, -(-q))) := ⟨by unfold shFin; simp only [HN.out, HX.out]; rw [if_neg c1, if_neg c2]⟩
      rw [HS.out]
      clear HS
      have t2 : decide (dmin < dmax) = false := decide_eq_false c2
      clear c1 c2
      go_enter Tryz.func109, Tryz.ntmps109
      go_wp2_with (first | (go_at_call 104; refine (l10_any _ _).mono ?_; (try rw [HQ.out]); rintro e_ w' ⟨rfl, ⟨mq, rfl⟩⟩) | (go_at_call 130; refine (skw_any _ _).mono ?_; (try rw [HQ.out]); rintro e_ w' ⟨rfl, ⟨mq, rfl⟩⟩) | (go_at_call 132; refine (l2_any _ _).mono ?_; rintro e_ w' ⟨rfl, ⟨mq, rfl⟩⟩) | (go_at_call 131; refine (prescale_any _ _ _ _ _ _ _ (by omega) (by omega) w _ (IsS186.drewN (IsS186.new w _ 0 0 0 (by repeat (first | (with_reducible first | exact Below.refl _ _ | apply pw_below_drewN | apply below_drew1 | apply below_alloc) | exact Below.refl _ _))) _) (by repeat (first | (with_reducible first | exact Below.refl _ _ | apply pw_below_drewN | apply below_drew1 | apply below_alloc) | exact Below.refl _ _)) HL.out).mono ?_; rintro e_ w' ⟨rfl, hi_, hb_⟩; have HI := Aside0.mk hi_; have HB := Aside0.mk hb_; clear hi_ hb_) | (go_at_call 133; refine (uscale_any _ _ _ _ _ w _ (by repeat (first | (with_reducible first | exact HI.out | apply IsS186.drewN) | exact HI.out)) (by repeat (first | (with_reducible first | exact HB.out | exact Below.refl _ _ | apply pw_below_drewN | apply below_drew1 | apply below_alloc) | exact HB.out | exact Below.refl _ _))).mono ?_; rintro e_ w' ⟨rfl, hi_, hb_⟩; have n0_ := Aside0.mk hi_; have n1_ := Aside0.mk hb_; clear HI HB hi_ hb_; have HI := n0_; have HB := n1_; clear n0_ n1_) | (go_at_call 134; refine (ndg_any _ _ _).mono ?_; rintro e_ w' ⟨rfl, ⟨mq, rfl⟩⟩) | (go_at_call 135; refine (cei_any _ _).mono ?_; (try rw [HN.out]); rintro e_ w' ⟨rfl, ⟨mq, rfl⟩⟩) | (go_at_call 136; refine (flo_any _ _).mono ?_; (try rw [HX.out]); rintro e_ w' ⟨rfl, ⟨mq, rfl⟩⟩) | (go_at_call 137; refine (rou_any _ _).mono ?_; rintro e_ w' ⟨rfl, ⟨mq, rfl⟩⟩))
      go_ret2
      exact ⟨by first | rfl | (rw [Int.neg_neg]; rfl) | (simp; done), (by repeat (first | (with_reducible first | exact HB.out | exact Below.refl _ _ | apply pw_below_drewN | apply below_drew1 | apply below_alloc) | exact HB.out | exact Below.refl _ _))⟩

set_option maxHeartbeats 4000000 in
set_option maxRecDepth 100000 in
theorem short_b5 (m e : Int) (h0 : 0 ≤ m) (h1 : m ≤ 18446744073709551615) (he0 : -1137 ≤ e) (he1 : e < -1085) (hm : (m == 9223372036854775808) = true) (w : World) (hL : LaidF w) :
    Calls Tryz.prog 109 #[.int .u64 m, .int .i64 e] w fun e_ w' => e_ = .returned (.tuple #[.int .u64 (shFin m e (-l10 (e + (11 + (-1085 - e)))) (IntKind.u64.wrap (m - IntKind.u64.wrap (2 ^ ((11 + (-1085 - e)).toNat - 1)))) (IntKind.u64.wrap (m + IntKind.u64.wrap (2 ^ ((11 + (-1085 - e)).toNat - 1)))) (Go.bits .and .i64 (wrap64 (m / 2 ^ (11 + (-1085 - e)).toNat)) 1)).1, .int .i64 (shFin m e (-l10 (e + (11 + (-1085 - e)))) (IntKind.u64.wrap (m - IntKind.u64.wrap (2 ^ ((11 + (-1085 - e)).toNat - 1)))) (IntKind.u64.wrap (m + IntKind.u64.wrap (2 ^ ((11 + (-1085 - e)).toNat - 1)))) (Go.bits .and .i64 (wrap64 (m / 2 ^ (11 + (-1085 - e)).toNat)) 1)).2]) ∧ Below w.heap.size w w' := by
  have hp := l10_bd2 (e + (11 + (-1085 - e))) (by omega) (by omega)
  obtain ⟨q, hq⟩ : ∃ q_, l10 (e + (11 + (-1085 - e))) = q_ := ⟨_, rfl⟩
  rw [hq] at hp ⊢
  have HQ := Aside0.mk hq
  obtain ⟨z0, z1⟩ := hp
  clear hq
  obtain ⟨mn, hmn⟩ : ∃ q_, IntKind.u64.wrap (m - IntKind.u64.wrap (2 ^ ((11 + (-1085 - e)).toNat - 1))) = q_ := ⟨_, rfl⟩
  obtain ⟨mx, hmx⟩ : ∃ q_, IntKind.u64.wrap (m + IntKind.u64.wrap (2 ^ ((11 + (-1085 - e)).toNat - 1))) = q_ := ⟨_, rfl⟩
  have ho := and1_bd (wrap64 (m / 2 ^ (11 + (-1085 - e)).toNat))
  obtain ⟨o, hod⟩ : ∃ q_, Go.bits .and .i64 (wrap64 (m / 2 ^ (11 + (-1085 - e)).toNat)) 1 = q_ := ⟨_, rfl⟩
  rw [hod] at ho
  rw [hmn, hmx, hod]
  obtain ⟨dmin, hdmin⟩ : ∃ q_, cei (ndg (usc mn (hiT (-q + 348).toNat) (loT (-q + 348).toNat) (preS e (l2 (-q)))) o) = q_ := ⟨_, rfl⟩
  obtain ⟨dmax, hdmax⟩ : ∃ q_, flo (ndg (usc mx (hiT (-q + 348).toNat) (loT (-q + 348).toNat) (preS e (l2 (-q)))) (-o)) = q_ := ⟨_, rfl⟩
  have bn := cei_bd (ndg (usc mn (hiT (-q + 348).toNat) (loT (-q + 348).toNat) (preS e (l2 (-q)))) o)
  have bx := flo_bd (ndg (usc mx (hiT (-q + 348).toNat) (loT (-q + 348).toNat) (preS e (l2 (-q)))) (-o))
  rw [hdmin] at bn
  rw [hdmax] at bx
  have HN := Aside0.mk hdmin
  have HX := Aside0.mk hdmax
  have HL := Aside0.mk hL
  clear hL hdmin hdmax
  obtain ⟨o0, o1⟩ := ho
  obtain ⟨n0, n1⟩ := bn
  obtain ⟨x0, x1⟩ := bx
  by_cases c1 : dmin ≤ dmax / 10 * 10
  · have HS : Aside0 (shFin m e (-q) mn mx o = (dmax / 10, -(-q - 1))) := ⟨by unfold shFin; simp only [HN.out, HX.out]; rw [if_pos c1]⟩
    rw [HS.out]
    clear HS
    have t1 : decide (dmin ≤ dmax / 10 * 10) = true := decide_eq_true c1
    clear c1
    go_enter Tryz.func109, Tryz.ntmps109
    go_wp2_with (first | (go_at_call 104; refine (l10_any _ _).mono ?_; (try rw [HQ.out]); rintro e_ w' ⟨rfl, ⟨mq, rfl⟩⟩) | (go_at_call 130; refine (skw_any _ _).mono ?_; (try rw [HQ.out]); rintro e_ w' ⟨rfl, ⟨mq, rfl⟩⟩) | (go_at_call 132; refine (l2_any _ _).mono ?_; rintro e_ w' ⟨rfl, ⟨mq, rfl⟩⟩) | (go_at_call 131; refine (prescale_any _ _ _ _ _ _ _ (by omega) (by omega) w _ (IsS186.drewN (IsS186.new w _ 0 0 0 (by repeat (first | (with_reducible first | exact Below.refl _ _ | apply pw_below_drewN | apply below_drew1 | apply below_alloc) | exact Below.refl _ _))) _) (by repeat (first | (with_reducible first | exact Below.refl _ _ | apply pw_below_drewN | apply below_drew1 | apply below_alloc) | exact Below.refl _ _)) HL.out).mono ?_; rintro e_ w' ⟨rfl, hi_, hb_⟩; have HI := Aside0.mk hi_; have HB := Aside0.mk hb_; clear hi_ hb_) | (go_at_call 133; refine (uscale_any _ _ _ _ _ w _ (by repeat (first | (with_reducible first | exact HI.out | apply IsS186.drewN) | exact HI.out)) (by repeat (first | (with_reducible first | exact HB.out | exact Below.refl _ _ | apply pw_below_drewN | apply below_drew1 | apply below_alloc) | exact HB.out | exact Below.refl _ _))).mono ?_; rintro e_ w' ⟨rfl, hi_, hb_⟩; have n0_ := Aside0.mk hi_; have n1_ := Aside0.mk hb_; clear HI HB hi_ hb_; have HI := n0_; have HB := n1_; clear n0_ n1_) | (go_at_call 134; refine (ndg_any _ _ _).mono ?_; rintro e_ w' ⟨rfl, ⟨mq, rfl⟩⟩) | (go_at_call 135; refine (cei_any _ _).mono ?_; (try rw [HN.out]); rintro e_ w' ⟨rfl, ⟨mq, rfl⟩⟩) | (go_at_call 136; refine (flo_any _ _).mono ?_; (try rw [HX.out]); rintro e_ w' ⟨rfl, ⟨mq, rfl⟩⟩) | (go_at_call 137; refine (rou_any _ _).mono ?_; rintro e_ w' ⟨rfl, ⟨mq, rfl⟩⟩))
    go_ret2
    exact ⟨by first | rfl | (rw [Int.neg_neg]; rfl) | (simp; done), (by repeat (first | (with_reducible first | exact HB.out | exact Below.refl _ _ | apply pw_below_drewN | apply below_drew1 | apply below_alloc) | exact HB.out | exact Below.refl _ _))⟩
  · have t1 : decide (dmin ≤ dmax / 10 * 10) = false := decide_eq_false c1
    by_cases c2 : dmin < dmax
    · have HS : Aside0 (shFin m e (-q) mn mx o = (rou (usc m (hiT (-q + 348).toNat) (loT (-q + 348).toNat) (preS e (l2 (-q)))), -(-q))) := ⟨by unfold shFin; simp only [HN.out, HX.out]; rw [if_neg c1, if_pos c2]⟩
      rw [HS.out]
      clear HS
      have t2 : decide (dmin < dmax) = true := decide_eq_true c2
      clear c1 c2
      go_enter Tryz.func109, Tryz.ntmps109
      go_wp2_with (first | (go_at_call 104; refine (l10_any _ _).mono ?_; (try rw [HQ.out]); rintro e_ w' ⟨rfl, ⟨mq, rfl⟩⟩) | (go_at_call 130; refine (skw_any _ _).mono ?_; (try rw [HQ.out]); rintro e_ w' ⟨rfl, ⟨mq, rfl⟩⟩) | (go_at_call 132; refine (l2_any _ _).mono ?_; rintro e_ w' ⟨rfl, ⟨mq, rfl⟩⟩) | (go_at_call 131; refine (prescale_any _ _ _ _ _ _ _ (by omega) (by omega) w _ (IsS186.drewN (IsS186.new w _ 0 0 0 (by repeat (first | (with_reducible first | exact Below.refl _ _ | apply pw_below_drewN | apply below_drew1 | apply below_alloc) | exact Below.refl _ _))) _) (by repeat (first | (with_reducible first | exact Below.refl _ _ | apply pw_below_drewN | apply below_drew1 | apply below_alloc) | exact Below.refl _ _)) HL.out).mono ?_; rintro e_ w' ⟨rfl, hi_, hb_⟩; have HI := Aside0.mk hi_; have HB := Aside0.mk hb_; clear hi_ hb_) | (go_at_call 133; refine (uscale_any _ _ _ _ _ w _ (by repeat (first | (with_reducible first | exact HI.out | apply IsS186.drewN) | exact HI.out)) (by repeat (first | (with_reducible first | exact HB.out | exact Below.refl _ _ | apply pw_below_drewN | apply below_drew1 | apply below_alloc) | exact HB.out | exact Below.refl _ _))).mono ?_; rintro e_ w' ⟨rfl, hi_, hb_⟩; have n0_ := Aside0.mk hi_; have n1_ := Aside0.mk hb_; clear HI HB hi_ hb_; have HI := n0_; have HB := n1_; clear n0_ n1_) | (go_at_call 134; refine (ndg_any _ _ _).mono ?_; rintro e_ w' ⟨rfl, ⟨mq, rfl⟩⟩) | (go_at_call 135; refine (cei_any _ _).mono ?_; (try rw [HN.out]); rintro e_ w' ⟨rfl, ⟨mq, rfl⟩⟩) | (go_at_call 136; refine (flo_any _ _).mono ?_; (try rw [HX.out]); rintro e_ w' ⟨rfl, ⟨mq, rfl⟩⟩) | (go_at_call 137; refine (rou_any _ _).mono ?_; rintro e_ w' ⟨rfl, ⟨mq, rfl⟩⟩))
      go_ret2
      exact ⟨by first | rfl | (rw [Int.neg_neg]; rfl) | (simp; done), (by repeat (first | (with_reducible first | exact HB.out | exact Below.refl _ _ | apply pw_below_drewN | apply below_drew1 | apply below_alloc) | exact HB.out | exact Below.refl _ _))⟩
    · have HS : Aside0 (shFin m e (-q) mn mx o = (dmin, -(-q))) := ⟨by unfold shFin; simp only [HN.out, HX.out]; rw [if_neg c1, if_neg c2]⟩
      rw [HS.out]
      clear HS
      have t2 : decide (dmin < dmax) = false := decide_eq_false c2
      clear c1 c2
      go_enter Tryz.func109, Tryz.ntmps109
      go_wp2_with (first | (go_at_call 104; refine (l10_any _ _).mono ?_; (try rw [HQ.out]); rintro e_ w' ⟨rfl, ⟨mq, rfl⟩⟩) | (go_at_call 130; refine (skw_any _ _).mono ?_; (try rw [HQ.out]); rintro e_ w' ⟨rfl, ⟨mq, rfl⟩⟩) | (go_at_call 132; refine (l2_any _ _).mono ?_; rintro e_ w' ⟨rfl, ⟨mq, rfl⟩⟩) | (go_at_call 131; refine (prescale_any _ _ _ _ _ _ _ (by omega) (by omega) w _ (IsS186.drewN (IsS186.new w _ 0 0 0 (by repeat (first | (with_reducible first | exact Below.refl _ _ | apply pw_below_drewN | apply below_drew1 | apply below_alloc) | exact Below.refl _ _))) _) (by repeat (first | (with_reducible first | exact Below.refl _ _ | apply pw_below_drewN | apply below_drew1 | apply below_alloc) | exact Below.refl _ _)) HL.out).mono ?_; rintro e_ w' ⟨rfl, hi_, hb_⟩; have HI := Aside0.mk hi_; have HB := Aside0.mk hb_; clear hi_ hb_) | (go_at_call 133; refine (uscale_any _ _ _ _ _ w _ (by repeat (first | (with_reducible first | exact HI.out | apply IsS186.drewN) | exact HI.out)) (by repeat (first | (with_reducible first | exact HB.out | exact Below.refl _ _ | apply pw_below_drewN | apply below_drew1 | apply below_alloc) | exact HB.out | exact Below.refl _ _))).mono ?_; rintro e_ w' ⟨rfl, hi_, hb_⟩; have n0_ := Aside0.mk hi_; have n1_ := Aside0.mk hb_; clear HI HB hi_ hb_; have HI := n0_; have HB := n1_; clear n0_ n1_) | (go_at_call 134; refine (ndg_any _ _ _).mono ?_; rintro e_ w' ⟨rfl, ⟨mq, rfl⟩⟩) | (go_at_call 135; refine (cei_any _ _).mono ?_; (try rw [HN.out]); rintro e_ w' ⟨rfl, ⟨mq, rfl⟩⟩) | (go_at_call 136; refine (flo_any _ _).mono ?_; (try rw [HX.out]); rintro e_ w' ⟨rfl, ⟨mq, rfl⟩⟩) | (go_at_call 137; refine (rou_any _ _).mono ?_; rintro e_ w' ⟨rfl, ⟨mq, rfl⟩⟩))
      go_ret2
      exact ⟨by first | rfl | (rw [Int.neg_neg]; rfl) | (simp; done), (by repeat (first | (with_reducible first | exact HB.out | exact Below.refl _ _ | apply pw_below_drewN | apply below_drew1 | apply below_alloc) | exact HB.out | exact Below.refl _ _))⟩
end Go.Proofs.YtjleceekccehoaaGreatDoor.Pr
