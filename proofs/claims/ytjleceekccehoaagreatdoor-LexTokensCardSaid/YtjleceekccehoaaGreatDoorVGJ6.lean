/- Texts of this session, cut down to what one claim needs and joined: FfLeft2, FfRight, FfRight2. -/
import Derived.Test.YtjleceekccehoaaGreatDoorVGJ5
section
set_option linter.unusedVariables false
set_option linter.unusedSimpArgs false
namespace Go.Proofs.YtjleceekccehoaaGreatDoor.Pr
open Go.RowKit Go.Proofs.YtjleceekccehoaaGreatDoor.Dec Go.Proofs.YtjleceekccehoaaGreatDoorW.PrintWords Go.Proofs.YtjleceekccehoaaGreatDoorW.PrintLast Go.Proofs.YtjleceekccehoaaGreatDoorW.PrintMore

set_option maxHeartbeats 4000000 in
set_option maxRecDepth 100000 in
theorem left_any (k : Nat) (k1 : 1 ≤ k) (k2 : k ≤ 60) (g : Nat) (ds : List Int) (n : Nat) (dp : Int) (ng tr : Bool) (hG : GoodD ds n) (hn : 1 ≤ n) (d1 : -1000000000 ≤ dp) (d2 : dp ≤ 1000000000) (w0 w : World) (h : DecB w0 w g ds n dp ng tr) (hC : LaidC w0) :
  Calls Tryz.prog 143 #[.pointer (some ⟨g, 0, none⟩), .int .u64 k] w fun e w' => e = .returned (.tuple #[]) ∧ ∃ es m e tr', LeftR w0 w' g ds dp ng es m e tr' := by
 obtain ⟨cb, co, c, hc1, hc2, hc3⟩ := hC.tab
 have hk := hc3 k (by omega)
 have c1 := pw_cell_below h.bel hc1
 have c2 := pw_cell_below h.bel hk.1
 have c3 := pw_cell_below h.bel hk.2
 have c4 := h.nd_
 have HB := Aside0.mk h
 have HG := Aside0.mk hG
 have n8 := hG.le
 have HM := Aside0.mk (more_le k k1 k2 (dl ds 0 n))
 obtain ⟨b, hb⟩ : ∃ b, pfx (dl ds 0 n) (cutD k) = b := ⟨_, rfl⟩
 obtain ⟨d, hd⟩ : ∃ d, (cheat k).1 = d := ⟨_, rfl⟩
 have d3 : 1 ≤ d := by rw [← hd]; exact (cheat_spec k k1 k2).2.2.1
 have d20 : d ≤ 20 := by have := HM.out; unfold more at this; rw [hd] at this; split at this <;> omega
 have hmore : more k (dl ds 0 n) = if b = true then d - 1 else d := by rw [← hb, ← hd]; rfl
 obtain ⟨e, he⟩ : ∃ e, more k (dl ds 0 n) = e := ⟨_, rfl⟩
 have he2 : (e : Int) = if b = true then (d : Int) - 1 else d := by rw [← he, hmore]; cases b <;> simp <;> omega
 rw [hd] at c2
 have e19 : e ≤ 19 := by rw [← he]; exact HM.out
 have HE := Aside0.mk he
 have HBB := Aside0.mk hb
 clear hc1 hc2 hc3 hk h hG hmore hd hC hb he
 have HP : ∀ w1, DecB w0 w1 g ds n dp ng tr → Calls Tryz.prog 170 #[.slice (some ⟨g, 0, none⟩) n 800, .string (cutB k)] w1 fun e w' => e = .returned (.bool b) ∧ ∃ m, w' = w1.drewN m := fun w1 h1 => by rw [← HBB.out]; exact (pfx_any k k1 k2 g ds n dp ng tr HG.out w0 w1 h1).mono fun _ _ hq => ⟨hq.1, hq.2.out⟩
 have HPA := Aside0.mk HP
 clear HP
 have z1 : (k : Int) < 61 := by omega
 have z0 : (0 : Int) ≤ (k : Int) := by omega
 have z2 : (n : Int) ≤ 800 := by omega
 have z3 : (0 : Int) ≤ (n : Int) := by omega
 have N0 : Aside0 (n + e ≤ 900) := ⟨by omega⟩
 have HE2 := Aside0.mk he2
 clear he2
 cases b
 all_goals
  first
   | (have hde : e = d := by have := HE2.out; simp at this; omega
      subst hde)
   | (have hde : d = e + 1 := by have := HE2.out; simp at this; omega
      subst hde)
  go_enter Tryz.func143, Tryz.ntmps143
  go_wp2_with fail
  go_quiet ((go_at_call 170; exact Calls.quiet_of (HPA.out _ (HB.out.below (by repeat (first | (with_reducible exact Below.refl _ _) | apply pw_below_drewN | apply below_drew1 | exact Below.refl _ _))))))
  go_wp2_with fail
  go_loopg [5, 6, 7] n (fun j v5 v6 v7 wr => v5 = .int .i64 ((j : Int) - 1) ∧ v6 = .int .i64 ((j : Int) + (e : Int)) ∧ v7 = .int .u64 (carry k (dl ds j n) : Nat) ∧ j ≤ n ∧ Aside0 (∃ es tr', DecB w0 wr g es n dp ng tr' ∧ Lf ds es n e j))
  case atStart => exact ⟨rfl, by have he2 := HE2.out; simp at he2; go_num, by rw [dl_self ds n (by have := HB.out.len; omega)]; simp [carry, val], Nat.le_refl _, ⟨ds, tr, HB.out.below (by repeat (first | (with_reducible exact Below.refl _ _) | apply pw_below_drewN | apply below_drew1 | exact Below.refl _ _)), Lf.start HG.out hn⟩⟩
  case round =>
   obtain ⟨h5, h6, h7, hj, HR⟩ := hrel
   cases gk with
   | zero =>
    obtain ⟨es, tr', hB, hF⟩ := HR.out
    have hc0 := left_hi k k1 k2 (dl ds 0 n) (dl_dig HG.out 0)
    have hc1 : 1 ≤ e → 10 ^ (e - 1) ≤ carry k (dl ds 0 n) := fun h1 => by
     have := left_lo k k1 k2 (dl ds 0 n) (dl_dig HG.out 0) (dl_hi HG.out hn) (by rw [dl_len ds 0 n (by have := HG.out.len; omega)]; omega)
     rw [HE.out] at this
     exact this h1
    rw [HE.out] at hc0
    obtain ⟨N, hN⟩ : ∃ N, carry k (dl ds 0 n) = N := ⟨_, rfl⟩
    have hN64 : (N : Int) ≤ 18446744073709551615 := by
     have h1 := carry_lt k (dl ds 0 n) (dl_dig HG.out 0)
     have h2 := (pow60 k k2).2
     omega
    rw [hN] at h7 hc0 hc1
    have HCC := Aside0.mk (And.intro hc0 hc1)
    have hB2 := Aside0.mk hB
    have hF2 := Aside0.mk hF
    have q1 : (((0 : Nat) : Int) - 1) = -1 := by omega
    have q2 : (((0 : Nat) : Int) + (e : Int)) = (e : Int) := by omega
    rw [q1] at h5
    rw [q2] at h6
    clear HR hB hF hc0 hc1 hN q1 q2
    subst h5 h6 h7
    go_wp2_with fail
    go_loopg [6, 7] e (fun u v6 v7 wr => v6 = .int .i64 (u : Int) ∧ u ≤ e ∧ (∃ m : Nat, v7 = .int .u64 (m : Int) ∧ m ≤ N ∧ Aside0 (m < 10 ^ u ∧ (1 ≤ u → 10 ^ (u - 1) ≤ m))) ∧ Aside0 (∃ es tr', DecB w0 wr g es n dp ng tr' ∧ Lg ds es n e u))
    case atStart => exact ⟨rfl, Nat.le_refl _, ⟨N, rfl, Nat.le_refl _, HCC⟩, ⟨es, tr', hB2.out, hF2.out.lg⟩⟩
    case round =>
     obtain ⟨h6, hu, ⟨m, h7, hmN, HMM⟩, HR⟩ := hrel
     clear hB2 hF2
     obtain ⟨es', tr'', hB, hF⟩ := HR.out
     cases gk with
     | zero =>
      have hm0 : m = 0 := by have := HMM.out.1; simp at this; omega
      obtain ⟨x0, hx0⟩ : ∃ x, ds[0]? = some x := ⟨ds[0]'(by have := HG.out.len; omega), List.getElem?_eq_getElem (by have := HG.out.len; omega)⟩
      have hx1 := HG.out.dig 0 x0 (by omega) hx0
      have hx2 := HG.out.one (by omega) x0 hx0
      have ho : ∀ y, es'[0]? = some y → y ≠ 48 := by
       intro y hy
       rcases Nat.eq_zero_or_pos e with h0 | h0
       ·have := hF.fst rfl h0 x0 y hx0 hy
        omega
       ·exact hF.one rfl h0 y hy
      have hgood : ∀ M, M ≤ 800 → 1 ≤ M → M ≤ n + e → GoodD es' (stripD es' M) ∧ 1 ≤ stripD es' M := fun M m1 m2 m3 => good_strip hF.len m1 m2 (fun i x hi hx => hF.dig i x (by omega) (by omega) hx) ho
      have HO := Aside0.mk hgood
      have hB2 := Aside0.mk hB
      have hF2 := Aside0.mk hF
      have f1 := hB.froz 800
      have f2 := hB.froz 801
      have cy := hB.nd_
      have cz := hB.dp_
      have q2 : (((0 : Nat) : Int)) = 0 := rfl
      clear HR hB hF HMM hgood ho hx0 hx1 hx2
      subst hm0 h6 h7
      have e1 : (n : Int) + (e : Int) = ((n + e : Nat) : Int) := by omega
      obtain ⟨T, hT⟩ : ∃ T, n + e = T := ⟨_, rfl⟩
      have q3 : (n : Int) + (e : Int) = (T : Int) := by omega
      have q4 : (T : Int) ≤ 900 := by have := N0.out; omega
      have HT := Aside0.mk hT
      have E19 : (e : Int) ≤ 19 := by omega
      clear hT e1
      by_cases hcl : T ≥ 800
      ·have q5 : (T : Int) ≥ 800 := by omega
       go_wp2_with (go_at_call 142; refine (trim_any g es' 800 (dp + e) ng tr'' (by omega) w0 _ (((hB2.out.setNd _).setNd 800).setDp _)).mono ?_; rintro e_ w' ⟨rfl, hb_⟩)
       go_end0
       have hgd := HO.out 800 (by omega) (by omega) (by have := HT.out; omega)
       exact ⟨rfl, es', _, e, tr'', ⟨by rw [if_neg (by omega)] at hb_; exact hb_, hgd.1, hgd.2, e19, hF2.out.fst rfl⟩⟩
      ·have q5 : ¬ ((T : Int) ≥ 800) := by omega
       go_wp2_with (go_at_call 142; refine (trim_any g es' T (dp + e) ng tr'' (by omega) w0 _ ((hB2.out.setNd _).setDp _)).mono ?_; rintro e_ w' ⟨rfl, hb_⟩)
       go_end0
       have hgd := HO.out T (by omega) (by have := HT.out; omega) (by have := HT.out; omega)
       exact ⟨rfl, es', _, e, tr'', ⟨by rw [if_neg (by omega)] at hb_; exact hb_, hgd.1, hgd.2, e19, hF2.out.fst rfl⟩⟩
     | succ u =>
      have hm1 : 1 ≤ m := by
       have := HMM.out.2 (by omega)
       have h2 : 0 < 10 ^ (u + 1 - 1) := Nat.pow_pos (by decide)
       omega
      have hlo := lo_step m u HMM.out.1 (by have := HMM.out.2 (by omega); rwa [Nat.add_sub_cancel] at this)
      have HLO := Aside0.mk hlo
      have hf0 : Aside0 (u = 0 → 1 ≤ (m : Int) - 10 * ((m : Int) / 10)) := ⟨by
       intro hu0
       have := HMM.out.1
       rw [hu0] at this
       simp at this
       omega⟩
      have hB2 := Aside0.mk hB
      have hF2 := Aside0.mk hF
      have q2 : (((u + 1 : Nat) : Int)) - 1 = (u : Int) := by omega
      have f1 := hB.froz u
      obtain ⟨y, hy⟩ : ∃ y, es'[u]? = some y := ⟨es'[u]'(by have := hB.len; omega), List.getElem?_eq_getElem (by have := hB.len; omega)⟩
      have cy := hB.dig u y hy
      have q6 : (u : Int) < 800 := by omega
      have q7 : (0 : Int) ≤ (u : Int) := by omega
      have q8 : (m : Int) > 0 := by omega
      have q9 : (m : Int) ≤ 18446744073709551615 := by omega
      clear HR hB hF hlo hy HMM
      subst h6 h7
      go_wp2_with fail
      go_roundg u
      case measure => omega
      case rel => exact ⟨by go_num, by omega, ⟨m / 10, by go_num, by omega, HLO⟩, ⟨_, tr'', hB2.out.setDig u (by omega) _, hF2.out.step (by omega) _ (by omega) (by omega) hf0.out⟩⟩
   | succ j =>
    obtain ⟨es, tr', hB, hF⟩ := HR.out
    obtain ⟨x, hx⟩ : ∃ x, ds[j]? = some x := ⟨ds[j]'(by have := HG.out.len; omega), List.getElem?_eq_getElem (by have := HG.out.len; omega)⟩
    have hxd := HG.out.dig j x (by omega) hx
    have cx := hB.dig j x ((hF.low j (by omega)).trans hx)
    have HX := Aside0.mk hx
    have hB2 := Aside0.mk hB
    have hF2 := Aside0.mk hF
    have q1 : ((((j + 1 : Nat) : Int)) - 1) = (j : Int) := by omega
    have q2 : ((((j + 1 : Nat) : Int)) + (e : Int)) = ((j + e + 1 : Nat) : Int) := by omega
    rw [q1] at h5
    obtain ⟨W, hW⟩ : ∃ W, j + e = W := ⟨_, rfl⟩
    rw [q2, hW] at h6
    have HW := Aside0.mk hW
    obtain ⟨N, hN⟩ : ∃ N, carry k (dl ds (j + 1) n) = N := ⟨_, rfl⟩
    rw [hN] at h7
    have hd9 : (x - 48).toNat ≤ 9 := by omega
    have bd := lq_bd k k2 (x - 48).toNat hd9 (dl ds (j + 1) n) (dl_dig HG.out (j + 1))
    have cc := carry_cons k (x - 48).toNat (dl ds (j + 1) n)
    rw [← dl_cons ds j n x (by omega) hx, hN] at cc
    rw [hN] at bd
    obtain ⟨M, hM⟩ : ∃ M, (x - 48).toNat * 2 ^ k = M := ⟨_, rfl⟩
    rw [hM] at bd cc
    have hS : IntKind.u64.wrap ((x - 48) * 2 ^ k) = (M : Int) := by
     have e1 : (x - 48) * 2 ^ k = (M : Int) := by
      rw [← hM, Int.natCast_mul, Int.toNat_of_nonneg (by omega)]
      simp
     rw [e1, IntWalk.u64_in _ (by omega)]
    have hfst : Aside0 (j = 0 → e = 0 → ∀ x, ds[0]? = some x → 2 * (x - 48) ≤ ((N : Int) + M) - 10 * (((N : Int) + M) / 10)) := ⟨by
     intro hj0 he0 y hy
     subst hj0
     rw [hx] at hy
     injection hy with hy
     have hc0 := left_hi k k1 k2 (dl ds 0 n) (dl_dig HG.out 0)
     rw [HE.out, he0] at hc0
     have hc1 : carry k ((x - 48).toNat :: dl ds (0 + 1) n) = 0 := by rw [← dl_cons ds 0 n x (by omega) hx]; omega
     have := left_first k (x - 48).toNat (dl ds (0 + 1) n) hc1 k1
     rw [hN, hM] at this
     omega⟩
    have CC := Aside0.mk cc
    clear HR hN cc hM hB hF hx hd9 q1 q2 hW
    subst h5 h6 h7
    have q3 : (0 : Int) ≤ (j : Int) := by omega
    have q4 : (j : Int) < 800 := by omega
    have bd2 : (N : Int) + (M : Int) ≤ 18446744073709551615 := by omega
    clear bd
    by_cases hw : W < 800
    ·have q6 : (W : Int) < 800 := by omega
     have q7 : (0 : Int) ≤ (W : Int) := by omega
     have f1 := hB2.out.froz W
     obtain ⟨y, hy⟩ : ∃ y, es[W]? = some y := ⟨es[W]'(by have := hB2.out.len; omega), List.getElem?_eq_getElem (by have := hB2.out.len; omega)⟩
     have cy := hB2.out.dig W y hy
     clear hy
     go_wp2_with fail
     go_roundg j
     case measure => omega
     case rel => exact ⟨by go_num, by have := HW.out; go_num, by rw [CC.out]; go_num, by omega, ⟨_, tr', hB2.out.setDig W hw _, by rw [← HW.out]; exact hF2.out.step _ (by omega) (by omega) hfst.out⟩⟩
    ·have q6 : ¬ ((W : Int) < 800) := by omega
     have q7 : (W : Int) ≤ 900 := by have := HW.out; have := N0.out; omega
     have f1 := hB2.out.froz 803
     have cy := hB2.out.tr_
     have hset : ∀ r, es.set W r = es := fun r => List.set_eq_of_length_le (by have := hB2.out.len; omega)
     have HSET := Aside0.mk hset
     clear hset
     go_wp2_with fail
     all_goals
      go_roundg j
      case measure => omega
      case rel => exact ⟨by go_num, by have := HW.out; go_num, by rw [CC.out]; go_num, by omega, ⟨_, _, by first | exact hB2.out.setTr true | exact hB2.out, by have := hF2.out.step _ (by omega) (by omega) hfst.out; rw [HW.out, HSET.out] at this; exact this⟩⟩
end Go.Proofs.YtjleceekccehoaaGreatDoor.Pr
end

section
set_option linter.unusedVariables false
set_option linter.unusedSimpArgs false
namespace Go.Proofs.YtjleceekccehoaaGreatDoor.Pr
open Go.RowKit Go.Proofs.YtjleceekccehoaaGreatDoor.Dec Go.Proofs.YtjleceekccehoaaGreatDoorW.PrintWords Go.Proofs.YtjleceekccehoaaGreatDoorW.PrintLast Go.Proofs.YtjleceekccehoaaGreatDoorW.PrintMore

theorem and_mask (k : Nat) (hk : k ≤ 60) : ∀ N : Nat, N < 18446744073709551616 → Go.bits .and .u64 (N : Int) (((2 ^ k : Nat) : Int) - 1) = ((N % 2 ^ k : Nat) : Int) := by
 intro N hN
 have hp := pow60 k hk
 have e : (((2 ^ k : Nat) : Int) - 1) = ((2 ^ k - 1 : Nat) : Int) := by omega
 rw [e]
 show IntKind.u64.wrap (((BitVec.ofInt 64 (N : Int)) &&& (BitVec.ofInt 64 ((2 ^ k - 1 : Nat) : Int))).toNat : Nat) = _
 have h1 : ((BitVec.ofInt 64 (N : Int)) &&& (BitVec.ofInt 64 ((2 ^ k - 1 : Nat) : Int))).toNat = N % 2 ^ k := by
  rw [BitVec.toNat_and, BitVec.ofInt_natCast, BitVec.ofInt_natCast, BitVec.toNat_ofNat, BitVec.toNat_ofNat, Nat.mod_eq_of_lt (by omega), Nat.mod_eq_of_lt (by omega), Nat.and_two_pow_sub_one_eq_mod]
 rw [h1, IntWalk.u64_in _ (by have := Nat.mod_le N (2 ^ k); omega)]
theorem ne0 (N K : Nat) (h : ¬ N < K) (hK : 1 ≤ K) : ((N : Int) / (K : Int) == 0) = false := by
 rw [beq_eq_false_iff_ne]
 have e : (N : Int) / (K : Int) = ((N / K : Nat) : Int) := by simp
 rw [e]
 have := Nat.div_pos (show K ≤ N by omega) (by omega)
 omega
theorem eq0 (N K : Nat) (h : N < K) : ((N : Int) / (K : Int) == 0) = true := by
 rw [beq_iff_eq]
 exact Int.ediv_eq_zero_of_lt (by omega) (by omega)
/-- What the digits read so far say: r of them, in all N; K is 2^k. -/
structure R1 (ds : List Int) (K r N : Nat) : Prop where
 lt : N < 10 * K
 zero : r = 0 → N = 0
 big : 1 ≤ r → 10 ^ (r - 1) ≤ N
 fst : r = 1 → ∀ x, ds[0]? = some x → N = (x - 48).toNat
theorem R1.step {ds : List Int} {K r N n : Nat} (h : R1 ds K r N) (hG : GoodD ds n) (hn : r < n) (hN : N < K) {x : Int} (hx : ds[r]? = some x) : R1 ds K (r + 1) (N * 10 + (x - 48).toNat) := by
 have hxd := hG.dig r x hn hx
 refine ⟨by omega, by omega, fun _ => ?_, fun h1 y hy => ?_⟩
 ·rw [Nat.add_sub_cancel]
  rcases Nat.eq_zero_or_pos r with h0 | h0
  ·subst h0
   have := hG.one (by omega) x hx
   simp
   omega
  ·have h1 := h.big h0
   have e : 10 ^ r = 10 ^ (r - 1) * 10 := by rw [← Nat.pow_succ]; congr 1; omega
   rw [e]; omega
 ·have h0 : r = 0 := by omega
  subst h0
  rw [hx] at hy
  injection hy with hy
  rw [h.zero rfl, hy]; omega
theorem R1.more {ds : List Int} {K r N : Nat} (h : R1 ds K r N) (h1 : 1 ≤ r) (hN : N < K) : R1 ds K (r + 1) (N * 10) := by
 refine ⟨by omega, by omega, fun _ => ?_, fun h2 => by omega⟩
 rw [Nat.add_sub_cancel]
 have h1 := h.big h1
 have e : 10 ^ r = 10 ^ (r - 1) * 10 := by rw [← Nat.pow_succ]; congr 1; omega
 rw [e]; omega
theorem R1.few {ds : List Int} {k K r N : Nat} (h : R1 ds K r N) (hk : k ≤ 60) (hK : 2 ^ k = K) (hN : N < K) : r ≤ 19 := by
 rcases Nat.lt_or_ge 19 r with h1 | h1
 ·have h2 := h.big (by omega)
  have h3 := (pow60 k hk).2
  have h4 : 10 ^ 19 ≤ 10 ^ (r - 1) := Nat.pow_le_pow_right (by decide) (by omega)
  have h5 : (10 : Nat) ^ 19 = 10000000000000000000 := by decide
  omega
 ·exact h1
theorem R1.pos {ds : List Int} {K r N : Nat} (h : R1 ds K r N) (hN : ¬ N < K) (hK : 1 ≤ K) : 1 ≤ r := by
 rcases Nat.eq_zero_or_pos r with h0 | h0
 ·have := h.zero h0; omega
 ·exact h0
/-- The row while digits are put down: below w they are new, from r on as they were. -/
structure Rg (ds es : List Int) (K r0 r w N : Nat) : Prop where
 len : es.length = 800
 high : ∀ i, r ≤ i → es[i]? = ds[i]?
 dig : ∀ i x, i < w → es[i]? = some x → 48 ≤ x ∧ x ≤ 57
 lt : N < 10 * K
 zero : w = 0 → K ≤ N ∧ (r0 = 1 → ∀ x, ds[0]? = some x → N = (x - 48).toNat)
 one : 0 < w → ∀ y, es[0]? = some y → y ≠ 48 ∧ (r0 = 1 → ∀ x, ds[0]? = some x → y < x)
theorem Rg.start {ds : List Int} {K r N n : Nat} (h : R1 ds K r N) (hG : GoodD ds n) (hN : ¬ N < K) : Rg ds ds K r r 0 N := ⟨hG.len, fun _ _ => rfl, fun i x h => by omega, h.lt, fun _ => ⟨by omega, fun h1 => h.fst h1⟩, fun h => by omega⟩
theorem div_le9 {N K : Nat} (h : N < 10 * K) : N / K ≤ 9 := by
 have hK : 0 < K := by omega
 have : N / K < 10 := by rw [Nat.div_lt_iff_lt_mul hK]; omega
 omega
theorem Rg.put {ds es : List Int} {K r0 r w N n : Nat} (h : Rg ds es K r0 r w N) (hw : w < r) (hK : 2 ≤ K) (hG : GoodD ds n) (hn : 1 ≤ n) (M : Nat) (hM : M < 10 * K) (r' : Nat) (hr : r ≤ r') : Rg ds (es.set w ((N / K : Nat) + 48)) K r0 r' (w + 1) M := by
 have h9 := div_le9 h.lt
 have hl := h.len
 have hDlt : 1 ≤ N → N / K < N := fun h1 => Nat.div_lt_self h1 hK
 have hDpos : K ≤ N → 0 < N / K := fun h1 => Nat.div_pos h1 (by omega)
 generalize N / K = D at *
 refine ⟨by simp [hl], fun i hi => ?_, fun i x hi hx => ?_, hM, fun h0 => by omega, fun _ y hy => ?_⟩
 ·rw [List.getElem?_set_ne (by omega)]; exact h.high i (by omega)
 ·by_cases he : i = w
  ·subst he
   rw [List.getElem?_set_self'] at hx
   cases h3 : es[i]? with
   | none => rw [h3] at hx; cases hx
   | some z => rw [h3] at hx; simp at hx; omega
  ·rw [List.getElem?_set_ne (by omega)] at hx
   exact h.dig i x (by omega) hx
 ·rcases Nat.eq_zero_or_pos w with h0 | h0
  ·subst h0
   rw [List.getElem?_set_self (by omega)] at hy
   injection hy with hy
   have hz := h.zero rfl
   have h1 := hDpos hz.1
   have h5 := hDlt (by omega)
   refine ⟨by omega, fun h2 x hx => ?_⟩
   have h3 := hz.2 h2 x hx
   have h4 := hG.dig 0 x (by omega) hx
   omega
  ·rw [List.getElem?_set_ne (by omega)] at hy
   exact h.one h0 y hy
/-- The same where no digit is left to be read. -/
structure Rh (ds es : List Int) (K r0 w N : Nat) : Prop where
 len : es.length = 800
 dig : ∀ i x, i < w → es[i]? = some x → 48 ≤ x ∧ x ≤ 57
 lt : N < 10 * K
 zero : w = 0 → K ≤ N ∧ (r0 = 1 → ∀ x, ds[0]? = some x → N = (x - 48).toNat)
 one : 0 < w → ∀ y, es[0]? = some y → y ≠ 48 ∧ (r0 = 1 → ∀ x, ds[0]? = some x → y < x)
theorem Rg.rh {ds es : List Int} {K r0 r w N : Nat} (h : Rg ds es K r0 r w N) : Rh ds es K r0 w N := ⟨h.len, h.dig, h.lt, h.zero, h.one⟩
theorem Rh.put {ds es : List Int} {K r0 w N n : Nat} (h : Rh ds es K r0 w N) (hK : 2 ≤ K) (hG : GoodD ds n) (hn : 1 ≤ n) : Rh ds (es.set w ((N / K : Nat) + 48)) K r0 (w + 1) (N % K * 10) := by
 have hm := Nat.mod_lt N (show 0 < K by omega)
 have hx : Rg ds es K r0 (max 801 (w + 1)) w N := by
  refine ⟨h.len, fun i hi => ?_, h.dig, h.lt, h.zero, h.one⟩
  have h1 := h.len
  have h2 := hG.len
  rw [List.getElem?_eq_none (by omega), List.getElem?_eq_none (by omega)]
 exact (hx.put (by omega) hK hG hn (N % K * 10) (by omega) (max 801 (w + 1)) (Nat.le_refl _)).rh
theorem Rh.skip {ds es : List Int} {K r0 w N : Nat} (h : Rh ds es K r0 w N) (hw : 1 ≤ w) (hK : 2 ≤ K) : Rh ds es K r0 w (N % K * 10) := by
 have hm := Nat.mod_lt N (show 0 < K by omega)
 exact ⟨h.len, h.dig, by omega, fun h0 => by omega, h.one⟩
/-- How often what is left may be cut yet. -/
def Cut (k q N : Nat) : Prop := N = 0 ∨ ∃ j, j ≤ k ∧ 2 ^ j ∣ N ∧ q = k + 1 - j
theorem Cut.start (k N : Nat) : Cut k (k + 1) N := Or.inr ⟨0, by omega, ⟨N, by simp⟩, by omega⟩
theorem Cut.step {k q N : Nat} (h : Cut k q N) (hN : 1 ≤ N) : ∃ q', q' < q ∧ Cut k q' (N % 2 ^ k * 10) := by
 rcases h with h | ⟨j, hj, hd, hq⟩
 ·omega
 ·rcases Nat.lt_or_ge j k with h1 | h1
  ·exact ⟨k + 1 - (j + 1), by omega, Or.inr ⟨j + 1, by omega, rs_dvd k j N h1 hd, rfl⟩⟩
  ·have : j = k := by omega
   subst this
   exact ⟨0, by omega, Or.inl (rs_end j N hd)⟩
/-- What a shift to the right leaves. -/
structure RightR (w0 w' : World) (g : Nat) (ds : List Int) (dp : Int) (ng : Bool) (es : List Int) (m : Nat) (e : Nat) (tr' : Bool) : Prop where
 dec : DecB w0 w' g es m (dp - e) ng tr'
 good : GoodD es m
 pos : 1 ≤ m
 few : e ≤ 19
 fst : e = 0 → ∀ x y, ds[0]? = some x → es[0]? = some y → y < x
end Go.Proofs.YtjleceekccehoaaGreatDoor.Pr
end

section
set_option linter.unusedVariables false
set_option linter.unusedSimpArgs false
namespace Go.Proofs.YtjleceekccehoaaGreatDoor.Pr
open Go.RowKit Go.Proofs.YtjleceekccehoaaGreatDoor.Dec Go.Proofs.YtjleceekccehoaaGreatDoorW.PrintWords Go.Proofs.YtjleceekccehoaaGreatDoorW.PrintLast Go.Proofs.YtjleceekccehoaaGreatDoorW.PrintMore

set_option maxHeartbeats 4000000 in
set_option maxRecDepth 100000 in
theorem right_any (k : Nat) (k1 : 1 ≤ k) (k2 : k ≤ 60) (g : Nat) (ds : List Int) (n : Nat) (dp : Int) (ng tr : Bool) (hG : GoodD ds n) (hn : 1 ≤ n) (d1 : -1000000000 ≤ dp) (d2 : dp ≤ 1000000000) (w0 w : World) (h : DecB w0 w g ds n dp ng tr) :
  Calls Tryz.prog 144 #[.pointer (some ⟨g, 0, none⟩), .int .u64 k] w fun e w' => e = .returned (.tuple #[]) ∧ ∃ es m e tr', RightR w0 w' g ds dp ng es m e tr' := by
 have HB := Aside0.mk h
 have HG := Aside0.mk hG
 have n8 := hG.le
 obtain ⟨K, hK⟩ : ∃ K : Nat, 2 ^ k = K := ⟨_, rfl⟩
 have hp := pow60 k k2
 have hK2 : 2 ≤ K := by rw [← hK]; calc 2 = 2 ^ 1 := rfl
  _ ≤ 2 ^ k := Nat.pow_le_pow_right (by decide) k1
 rw [hK] at hp
 have hKI : (2 : Int) ^ k = (K : Int) := by rw [← hK]; simp
 have HKK := Aside0.mk hK
 have HK2 := Aside0.mk hK2
 have kb : (K : Int) ≤ 1152921504606846976 := by omega
 have kb1 : (1 : Int) ≤ (K : Int) := by omega
 have hand := and_mask k k2
 rw [hK] at hand
 have HAND := Aside0.mk hand
 have z0 : (0 : Int) ≤ (k : Int) := by omega
 have z1 : (k : Int) ≤ 64 := by omega
 have HN := Aside0.mk hn
 clear h hG hp hK hK2 hand
 go_enter Tryz.func144, Tryz.ntmps144
 go_wp2_with fail
 go_loopg [4, 6] 30 (fun q v4 v6 wr => ∃ r N : Nat, v4 = .int .i64 (r : Int) ∧ v6 = .int .u64 (N : Int) ∧ r + q = 30 ∧ r ≤ n ∧ r ≤ 20 ∧ Aside0 (R1 ds K r N) ∧ Aside0 (DecB w0 wr g ds n dp ng tr))
 case atStart => exact ⟨0, 0, rfl, rfl, rfl, by omega, by omega, ⟨by have := HK2.out; omega, fun _ => rfl, fun h => by omega, fun h => by omega⟩, HB⟩
 case round =>
  clear HB
  obtain ⟨r, N, h4, h6, hq, hrn, hr20, HR, HB⟩ := hrel
  have hlt := HR.out.lt
  have b1 : (N : Int) < 10 * (K : Int) := by omega
  clear hlt
  have cn := HB.out.nd_
  subst h4 h6
  by_cases hNK : N < K
  ·have t1 := eq0 N K hNK
   by_cases hr : r < n
   ·have s1 : ((r : Int) ≥ (n : Int)) = False := by simp; omega
    obtain ⟨x, hx⟩ : ∃ x, ds[r]? = some x := ⟨ds[r]'(by have := HG.out.len; omega), List.getElem?_eq_getElem (by have := HG.out.len; omega)⟩
    have hxd := HG.out.dig r x hr hx
    have cx := HB.out.dig r x hx
    have HN2 : Aside0 (R1 ds K (r + 1) (N * 10 + (x - 48).toNat)) := ⟨HR.out.step HG.out hr hNK hx⟩
    have q3 : (r : Int) < 800 := by omega
    have q4 : (0 : Int) ≤ (r : Int) := by omega
    have r19 : r ≤ 19 := HR.out.few k2 HKK.out hNK
    have b2 : (N : Int) * 10 + 9 ≤ 18446744073709551615 := by omega
    have b3 : (0 : Int) ≤ (N : Int) := by omega
    clear hx
    go_wp2_with fail
    go_roundg (gk - 1)
    case measure => omega
    case rel => exact ⟨r + 1, N * 10 + (x - 48).toNat, by go_num, by go_num, by omega, by omega, by omega, HN2, HB⟩
   ·have hre : r = n := by omega
    have s1 : ((r : Int) ≥ (n : Int)) := by omega
    have hr1 : 1 ≤ r := by have := HN.out; omega
    have hN1 : 1 ≤ N := by
     have h1 := HR.out.big hr1
     have h2 : 0 < 10 ^ (r - 1) := Nat.pow_pos (by decide)
     omega
    have s2 : ((N : Int) == 0) = false := by rw [beq_eq_false_iff_ne]; omega
    have b3 : (0 : Int) ≤ (N : Int) := by omega
    clear hre hN1 b1
    go_wp2_with fail
    go_loopg [4, 6] gk (fun q v4 v6 wr => ∃ r N : Nat, v4 = .int .i64 (r : Int) ∧ v6 = .int .u64 (N : Int) ∧ r + q = 30 ∧ 1 ≤ r ∧ r ≤ 20 ∧ Aside0 (R1 ds K r N) ∧ Aside0 (DecB w0 wr g ds n dp ng tr))
    case atStart => exact ⟨r, N, rfl, rfl, hq, hr1, hr20, HR, HB⟩
    case round =>
     clear HB HR hNK cn t1 s1 s2 b3 hr hq hr1 hr20 hrn
     obtain ⟨r', N', h4, h6, hq, hr1, hr20, HR, HB⟩ := hrel
     subst h4 h6
     have hlt := HR.out.lt
     have b1 : (N' : Int) < 10 * (K : Int) := by omega
     have b3 : (0 : Int) ≤ (N' : Int) := by omega
     clear hlt
     by_cases hNK : N' < K
     ·have t1 := eq0 N' K hNK
      have b2 : (N' : Int) * 10 + 9 ≤ 18446744073709551615 := by omega
      have r19 := HR.out.few k2 HKK.out hNK
      have HN2 := Aside0.mk (HR.out.more hr1 hNK)
      go_wp2_with fail
      go_roundg (gk - 1)
      case measure => omega
      case rel => exact ⟨r' + 1, N' * 10, by go_num, by go_num, by omega, by omega, by omega, HN2, HB⟩
     ·have t1 := ne0 N' K hNK (by omega)
      have HP := Aside0.mk hNK
      clear hNK hq
      have cd := HB.out.dp_
      have fd := HB.out.froz 801
      have r1 : 1 ≤ r' := HR.out.pos HP.out (by omega)
      have R20 : r' ≤ 20 := by first | exact hr20 | omega
      have dq : (dp - ((r' : Int) - 1)) = dp - ((r' - 1 : Nat) : Int) := by omega
      obtain ⟨e, he⟩ : ∃ e : Nat, r' - 1 = e := ⟨_, rfl⟩
      have he1 : (r' : Int) - 1 = (e : Int) := by omega
      have HE := Aside0.mk he
      have e19 : (e : Int) ≤ 19 := by omega
      have HS := Aside0.mk (Rg.start HR.out HG.out HP.out)
      clear he dq HR
      go_wp2_with fail
      go_loopg [4, 5, 6] (n - r') (fun q v4 v5 v6 wr => ∃ r3 w3 N3 : Nat, v4 = .int .i64 (r3 : Int) ∧ v5 = .int .i64 (w3 : Int) ∧ v6 = .int .u64 (N3 : Int) ∧ r3 = r' + w3 ∧ q = n - r3 ∧ w3 ≤ 800 ∧ Aside0 (∃ es, DecB w0 wr g es n (dp - e) ng tr ∧ Rg ds es K r' r3 w3 N3))
      case atStart => exact ⟨r', 0, N', rfl, rfl, rfl, rfl, rfl, by omega, ⟨ds, HB.out.setDp _, HS.out⟩⟩
      case round =>
       clear HB HS HP
       obtain ⟨r3, w3, N3, h4, h5, h6, hr', hq, hw8, HH⟩ := hrel
       obtain ⟨es, hB, hF⟩ := HH.out
       have HB := Aside0.mk hB
       have HF := Aside0.mk hF
       have hlt := hF.lt
       have b1 : (N3 : Int) < 10 * (K : Int) := by omega
       have b3 : (0 : Int) ≤ (N3 : Int) := by omega
       have cn := hB.nd_
       have HR' := Aside0.mk (And.intro hr' hq)
       have w1r : w3 < r3 := by omega
       clear hB hF HH hlt hr' hq
       subst h4 h5 h6
       by_cases hr : r3 < n
       ·have s1 : (r3 : Int) < (n : Int) := by omega
        obtain ⟨x, hx⟩ : ∃ x, ds[r3]? = some x := ⟨ds[r3]'(by have := HG.out.len; omega), List.getElem?_eq_getElem (by have := HG.out.len; omega)⟩
        have hxd := HG.out.dig r3 x hr hx
        have cx := HB.out.dig r3 x ((HF.out.high r3 (Nat.le_refl _)).trans hx)
        obtain ⟨y, hy⟩ : ∃ y, es[w3]? = some y := ⟨es[w3]'(by have := HF.out.len; omega), List.getElem?_eq_getElem (by have := HF.out.len; omega)⟩
        have cy := HB.out.dig w3 y hy
        have fw := HB.out.froz w3
        obtain ⟨D, hD⟩ : ∃ D, N3 / K = D := ⟨_, rfl⟩
        have hDI : (N3 : Int) / (K : Int) = (D : Int) := by rw [← hD]; simp
        have hD9 : D ≤ 9 := by rw [← hD]; exact div_le9 HF.out.lt
        obtain ⟨R, hR⟩ : ∃ R, N3 % K = R := ⟨_, rfl⟩
        have hA := HAND.out N3 (by omega)
        rw [hR] at hA
        have hRK : R < K := by rw [← hR]; exact Nat.mod_lt _ (by omega)
        have bR : (R : Int) * 10 + 9 < 10 * (K : Int) := by omega
        have q3 : (r3 : Int) < 800 := by omega
        have q4 : (0 : Int) ≤ (r3 : Int) := by omega
        have q5 : (w3 : Int) < 800 := by omega
        have q6 : (0 : Int) ≤ (w3 : Int) := by omega
        have b2 : (R : Int) * 10 + 9 ≤ 18446744073709551615 := by omega
        have hF2 := HF.out.put (by omega) HK2.out HG.out HN.out (R * 10 + (x - 48).toNat) (by omega) (r3 + 1) (by omega)
        rw [hD] at hF2
        have HF2 := Aside0.mk hF2
        clear hx hy hD hR hF2 hRK
        go_wp2_with fail
        go_roundg (n - (r3 + 1))
        case measure => have := HR'.out; omega
        case rel => exact ⟨r3 + 1, w3 + 1, R * 10 + (x - 48).toNat, by go_num, by go_num, by go_num, by have := HR'.out; omega, rfl, by omega, ⟨_, HB.out.setDig w3 (by omega) _, HF2.out⟩⟩
       ·have s1 : ((r3 : Int) < (n : Int)) = False := by simp; omega
        go_wp2_with fail
        go_loopg [5, 6] (k + 1) (fun q v5 v6 wr => ∃ w3 N3 : Nat, v5 = .int .i64 (w3 : Int) ∧ v6 = .int .u64 (N3 : Int) ∧ w3 ≤ 800 ∧ Aside0 (Cut k q N3) ∧ Aside0 (∃ es tr', DecB w0 wr g es n (dp - e) ng tr' ∧ Rh ds es K r' w3 N3))
        case atStart => exact ⟨w3, N3, rfl, rfl, hw8, ⟨Cut.start k N3⟩, ⟨es, tr, HB.out, HF.out.rh⟩⟩
        case round =>
         clear HB HF cn s1 hr HR' w1r b1 b3 hw8
         obtain ⟨w1, N1, h5, h6, hw8, HC, HH⟩ := hrel
         obtain ⟨es1, tr1, hB, hF⟩ := HH.out
         have HB := Aside0.mk hB
         have HF := Aside0.mk hF
         have hlt := hF.lt
         have b1 : (N1 : Int) < 10 * (K : Int) := by omega
         have b3 : (0 : Int) ≤ (N1 : Int) := by omega
         clear hB hF HH hlt
         subst h5 h6
         by_cases hN0 : N1 = 0
         ·subst hN0
          have hz : 1 ≤ w1 := by
           rcases Nat.eq_zero_or_pos w1 with h0 | h0
           ·have := (HF.out.zero h0).1; omega
           ·exact h0
          have cn := HB.out.nd_
          have fn := HB.out.froz 800
          have HZ := Aside0.mk hz
          clear hz
          have q7 : ((((0 : Nat) : Int)) > 0) = False := by simp
          go_wp2_with fail
          refine (trim_any g es1 w1 (dp - e) ng tr1 (by omega) w0 _ (HB.out.setNd _)).mono ?_
          rintro e_ w'' ⟨rfl, hb_⟩
          go_wp2_with fail
          go_end0
          have hgd := good_strip HF.out.len hw8 HZ.out HF.out.dig (fun x hx => (HF.out.one HZ.out x hx).1)
          exact ⟨rfl, es1, _, e, tr1, ⟨by have := hgd.2; rw [if_neg (by omega)] at hb_; exact hb_, hgd.1, hgd.2, by omega, fun h0 x y hx hy => (HF.out.one HZ.out y hy).2 (by have := HE.out; omega) x hx⟩⟩
         ·have t1 : (N1 : Int) > 0 := by omega
          obtain ⟨q', hq1, hq2⟩ := HC.out.step (by omega)
          rw [HKK.out] at hq2
          obtain ⟨D, hD⟩ : ∃ D, N1 / K = D := ⟨_, rfl⟩
          have hDI : (N1 : Int) / (K : Int) = (D : Int) := by rw [← hD]; simp
          have hD9 : D ≤ 9 := by rw [← hD]; exact div_le9 HF.out.lt
          obtain ⟨R, hR⟩ : ∃ R, N1 % K = R := ⟨_, rfl⟩
          have hA := HAND.out N1 (by omega)
          have hRK : R < K := by rw [← hR]; exact Nat.mod_lt _ (by omega)
          rw [hR] at hA hq2
          have b2 : (R : Int) + 1 ≤ (K : Int) := by omega
          have HQ2 := Aside0.mk hq2
          by_cases hw : w1 < 800
          ·have hF2 := HF.out.put HK2.out HG.out HN.out
           rw [hD, hR] at hF2
           have HF2 := Aside0.mk hF2
           obtain ⟨y, hy⟩ : ∃ y, es1[w1]? = some y := ⟨es1[w1]'(by have := HF.out.len; omega), List.getElem?_eq_getElem (by have := HF.out.len; omega)⟩
           have cy := HB.out.dig w1 y hy
           have fw := HB.out.froz w1
           have q5 : (w1 : Int) < 800 := by omega
           have q6 : (0 : Int) ≤ (w1 : Int) := by omega
           have HQ1 := Aside0.mk hq1
           clear hD hR hF2 hy hq2 HC hRK hN0 hq1
           go_wp2_with fail
           go_roundg q'
           case measure => exact HQ1.out
           case rel => exact ⟨w1 + 1, R * 10, by go_num, by go_num, by omega, HQ2, ⟨_, tr1, HB.out.setDig w1 hw _, HF2.out⟩⟩
          ·have hF2 := HF.out.skip (by omega) HK2.out
           rw [hR] at hF2
           have HF2 := Aside0.mk hF2
           have cy := HB.out.tr_
           have fw := HB.out.froz 803
           have hw2 : w1 = 800 := by omega
           have HQ1 := Aside0.mk hq1
           clear hD hR hF2 hq2 HC hRK hN0 hq1
           by_cases hD0 : D = 0
           ·subst hD0
            have q7 : ((((0 : Nat) : Int)) > 0) = False := by simp
            subst hw2
            go_wp2_with fail
            go_roundg q'
            case measure => exact HQ1.out
            case rel => exact ⟨800, R * 10, rfl, by go_num, by omega, HQ2, ⟨_, tr1, HB.out, HF2.out⟩⟩
           ·have q7 : (D : Int) > 0 := by omega
            subst hw2
            go_wp2_with fail
            go_roundg q'
            case measure => exact HQ1.out
            case rel => exact ⟨800, R * 10, rfl, by go_num, by omega, HQ2, ⟨_, true, HB.out.setTr true, HF2.out⟩⟩
  ·have t1 := ne0 N K hNK (by omega)
   have HP := Aside0.mk hNK
   clear hNK hq hrn
   have cd := HB.out.dp_
   have fd := HB.out.froz 801
   have r1 : 1 ≤ r := HR.out.pos HP.out (by omega)
   have R20 : r ≤ 20 := by first | exact hr20 | omega
   have dq : (dp - ((r : Int) - 1)) = dp - ((r - 1 : Nat) : Int) := by omega
   obtain ⟨e, he⟩ : ∃ e : Nat, r - 1 = e := ⟨_, rfl⟩
   have he1 : (r : Int) - 1 = (e : Int) := by omega
   have HE := Aside0.mk he
   have e19 : (e : Int) ≤ 19 := by omega
   have HS := Aside0.mk (Rg.start HR.out HG.out HP.out)
   clear he dq HR
   go_wp2_with fail
   go_loopg [4, 5, 6] (n - r) (fun q v4 v5 v6 wr => ∃ r3 w3 N3 : Nat, v4 = .int .i64 (r3 : Int) ∧ v5 = .int .i64 (w3 : Int) ∧ v6 = .int .u64 (N3 : Int) ∧ r3 = r + w3 ∧ q = n - r3 ∧ w3 ≤ 800 ∧ Aside0 (∃ es, DecB w0 wr g es n (dp - e) ng tr ∧ Rg ds es K r r3 w3 N3))
   case atStart => exact ⟨r, 0, N, rfl, rfl, rfl, rfl, rfl, by omega, ⟨ds, HB.out.setDp _, HS.out⟩⟩
   case round =>
    clear HB HS HP
    obtain ⟨r3, w3, N3, h4, h5, h6, hr', hq, hw8, HH⟩ := hrel
    obtain ⟨es, hB, hF⟩ := HH.out
    have HB := Aside0.mk hB
    have HF := Aside0.mk hF
    have hlt := hF.lt
    have b1 : (N3 : Int) < 10 * (K : Int) := by omega
    have b3 : (0 : Int) ≤ (N3 : Int) := by omega
    have cn := hB.nd_
    have HR' := Aside0.mk (And.intro hr' hq)
    have w1r : w3 < r3 := by omega
    clear hB hF HH hlt hr' hq
    subst h4 h5 h6
    by_cases hr : r3 < n
    ·have s1 : (r3 : Int) < (n : Int) := by omega
     obtain ⟨x, hx⟩ : ∃ x, ds[r3]? = some x := ⟨ds[r3]'(by have := HG.out.len; omega), List.getElem?_eq_getElem (by have := HG.out.len; omega)⟩
     have hxd := HG.out.dig r3 x hr hx
     have cx := HB.out.dig r3 x ((HF.out.high r3 (Nat.le_refl _)).trans hx)
     obtain ⟨y, hy⟩ : ∃ y, es[w3]? = some y := ⟨es[w3]'(by have := HF.out.len; omega), List.getElem?_eq_getElem (by have := HF.out.len; omega)⟩
     have cy := HB.out.dig w3 y hy
     have fw := HB.out.froz w3
     obtain ⟨D, hD⟩ : ∃ D, N3 / K = D := ⟨_, rfl⟩
     have hDI : (N3 : Int) / (K : Int) = (D : Int) := by rw [← hD]; simp
     have hD9 : D ≤ 9 := by rw [← hD]; exact div_le9 HF.out.lt
     obtain ⟨R, hR⟩ : ∃ R, N3 % K = R := ⟨_, rfl⟩
     have hA := HAND.out N3 (by omega)
     rw [hR] at hA
     have hRK : R < K := by rw [← hR]; exact Nat.mod_lt _ (by omega)
     have bR : (R : Int) * 10 + 9 < 10 * (K : Int) := by omega
     have q3 : (r3 : Int) < 800 := by omega
     have q4 : (0 : Int) ≤ (r3 : Int) := by omega
     have q5 : (w3 : Int) < 800 := by omega
     have q6 : (0 : Int) ≤ (w3 : Int) := by omega
     have b2 : (R : Int) * 10 + 9 ≤ 18446744073709551615 := by omega
     have hF2 := HF.out.put (by omega) HK2.out HG.out HN.out (R * 10 + (x - 48).toNat) (by omega) (r3 + 1) (by omega)
     rw [hD] at hF2
     have HF2 := Aside0.mk hF2
     clear hx hy hD hR hF2 hRK
     go_wp2_with fail
     go_roundg (n - (r3 + 1))
     case measure => have := HR'.out; omega
     case rel => exact ⟨r3 + 1, w3 + 1, R * 10 + (x - 48).toNat, by go_num, by go_num, by go_num, by have := HR'.out; omega, rfl, by omega, ⟨_, HB.out.setDig w3 (by omega) _, HF2.out⟩⟩
    ·have s1 : ((r3 : Int) < (n : Int)) = False := by simp; omega
     go_wp2_with fail
     go_loopg [5, 6] (k + 1) (fun q v5 v6 wr => ∃ w3 N3 : Nat, v5 = .int .i64 (w3 : Int) ∧ v6 = .int .u64 (N3 : Int) ∧ w3 ≤ 800 ∧ Aside0 (Cut k q N3) ∧ Aside0 (∃ es tr', DecB w0 wr g es n (dp - e) ng tr' ∧ Rh ds es K r w3 N3))
     case atStart => exact ⟨w3, N3, rfl, rfl, hw8, ⟨Cut.start k N3⟩, ⟨es, tr, HB.out, HF.out.rh⟩⟩
     case round =>
      clear HB HF cn s1 hr HR' w1r b1 b3 hw8
      obtain ⟨w1, N1, h5, h6, hw8, HC, HH⟩ := hrel
      obtain ⟨es1, tr1, hB, hF⟩ := HH.out
      have HB := Aside0.mk hB
      have HF := Aside0.mk hF
      have hlt := hF.lt
      have b1 : (N1 : Int) < 10 * (K : Int) := by omega
      have b3 : (0 : Int) ≤ (N1 : Int) := by omega
      clear hB hF HH hlt
      subst h5 h6
      by_cases hN0 : N1 = 0
      ·subst hN0
       have hz : 1 ≤ w1 := by
        rcases Nat.eq_zero_or_pos w1 with h0 | h0
        ·have := (HF.out.zero h0).1; omega
        ·exact h0
       have cn := HB.out.nd_
       have fn := HB.out.froz 800
       have HZ := Aside0.mk hz
       clear hz
       have q7 : ((((0 : Nat) : Int)) > 0) = False := by simp
       go_wp2_with fail
       refine (trim_any g es1 w1 (dp - e) ng tr1 (by omega) w0 _ (HB.out.setNd _)).mono ?_
       rintro e_ w'' ⟨rfl, hb_⟩
       go_wp2_with fail
       go_end0
       have hgd := good_strip HF.out.len hw8 HZ.out HF.out.dig (fun x hx => (HF.out.one HZ.out x hx).1)
       exact ⟨rfl, es1, _, e, tr1, ⟨by have := hgd.2; rw [if_neg (by omega)] at hb_; exact hb_, hgd.1, hgd.2, by omega, fun h0 x y hx hy => (HF.out.one HZ.out y hy).2 (by have := HE.out; omega) x hx⟩⟩
      ·have t1 : (N1 : Int) > 0 := by omega
       obtain ⟨q', hq1, hq2⟩ := HC.out.step (by omega)
       rw [HKK.out] at hq2
       obtain ⟨D, hD⟩ : ∃ D, N1 / K = D := ⟨_, rfl⟩
       have hDI : (N1 : Int) / (K : Int) = (D : Int) := by rw [← hD]; simp
       have hD9 : D ≤ 9 := by rw [← hD]; exact div_le9 HF.out.lt
       obtain ⟨R, hR⟩ : ∃ R, N1 % K = R := ⟨_, rfl⟩
       have hA := HAND.out N1 (by omega)
       have hRK : R < K := by rw [← hR]; exact Nat.mod_lt _ (by omega)
       rw [hR] at hA hq2
       have b2 : (R : Int) + 1 ≤ (K : Int) := by omega
       have HQ2 := Aside0.mk hq2
       by_cases hw : w1 < 800
       ·have hF2 := HF.out.put HK2.out HG.out HN.out
        rw [hD, hR] at hF2
        have HF2 := Aside0.mk hF2
        obtain ⟨y, hy⟩ : ∃ y, es1[w1]? = some y := ⟨es1[w1]'(by have := HF.out.len; omega), List.getElem?_eq_getElem (by have := HF.out.len; omega)⟩
        have cy := HB.out.dig w1 y hy
        have fw := HB.out.froz w1
        have q5 : (w1 : Int) < 800 := by omega
        have q6 : (0 : Int) ≤ (w1 : Int) := by omega
        have HQ1 := Aside0.mk hq1
        clear hD hR hF2 hy hq2 HC hRK hN0 hq1
        go_wp2_with fail
        go_roundg q'
        case measure => exact HQ1.out
        case rel => exact ⟨w1 + 1, R * 10, by go_num, by go_num, by omega, HQ2, ⟨_, tr1, HB.out.setDig w1 hw _, HF2.out⟩⟩
       ·have hF2 := HF.out.skip (by omega) HK2.out
        rw [hR] at hF2
        have HF2 := Aside0.mk hF2
        have cy := HB.out.tr_
        have fw := HB.out.froz 803
        have hw2 : w1 = 800 := by omega
        have HQ1 := Aside0.mk hq1
        clear hD hR hF2 hq2 HC hRK hN0 hq1
        by_cases hD0 : D = 0
        ·subst hD0
         have q7 : ((((0 : Nat) : Int)) > 0) = False := by simp
         subst hw2
         go_wp2_with fail
         go_roundg q'
         case measure => exact HQ1.out
         case rel => exact ⟨800, R * 10, rfl, by go_num, by omega, HQ2, ⟨_, tr1, HB.out, HF2.out⟩⟩
        ·have q7 : (D : Int) > 0 := by omega
         subst hw2
         go_wp2_with fail
         go_roundg q'
         case measure => exact HQ1.out
         case rel => exact ⟨800, R * 10, rfl, by go_num, by omega, HQ2, ⟨_, true, HB.out.setTr true, HF2.out⟩⟩
end Go.Proofs.YtjleceekccehoaaGreatDoor.Pr
end
