/- Texts of this session, cut down to what one claim needs and joined: FfMain. -/
import Derived.Test.YtjleceekccehoaaGreatDoorBFfText
set_option linter.unusedVariables false
set_option linter.unusedSimpArgs false
namespace Go.Proofs.YtjleceekccehoaaGreatDoor.Pr
open Go.RowKit Go.Proofs.YtjleceekccehoaaGreatDoorW.PrintWords Go.Proofs.YtjleceekccehoaaGreatDoorW.PrintLast Go.Proofs.YtjleceekccehoaaGreatDoorW.PrintMore
attribute [local go_sem] bits_run

theorem St.with_buf {w0 w : World} {v : Value} {l : List Int} {ds : List Int} (h : St w0 none [] w v l) : St w0 (some w.heap.size) ds (w.alloc (.cells (u8s ds) 141)) v l := by
  refine ⟨Kd.R_alloc (Kd.R_mono (Kd.R_bound h.row) (fun k hk he => ?_)) _, fun g hg => ?_, below_alloc h.bel _⟩
  · obtain rfl := Option.some.inj he
    exact absurd hk.2.2.1 (Nat.lt_irrefl _)
  · obtain rfl := Option.some.inj hg
    exact heap_alloc_new w _
theorem St.below {w0 w w1 : World} {gs : Option Nat} {v : Value} {l : List Int} {ds : List Int} (h : St w0 gs ds w v l) (hb : Below w.heap.size w w1) : St w0 gs ds w1 v l :=
  ⟨Kd.R_below h.row hb, fun g hg => (hb.block g (h.src g hg).lt).trans (h.src g hg), below_step h.bel hb⟩
theorem St.buf {w0 w w1 : World} {g : Nat} {v : Value} {l : List Int} {ds es : List Int} (h : St w0 (some g) ds w v l) (hk : KB w w1 g) (hb : Blk w1 g 141 (u8s es)) (hg : w0.heap.size ≤ g) : St w0 (some g) es w1 v l :=
  ⟨Kd.R_keep h.row hk.1 (fun k hk he => hk (congrArg some he)), fun g' hg' => by obtain rfl := Option.some.inj hg'; exact hb, ⟨hk.2.os.trans h.bel.os, hk.2.tape.trans h.bel.tape, hk.2.output.trans h.bel.output, Nat.le_trans h.bel.size hk.1.1, fun k hlt => (hk.2.block k (Nat.lt_of_lt_of_le hlt hg)).trans (h.bel.block k hlt)⟩⟩
theorem nDig_nat (d : Int) : ∃ n : Nat, nDig d = n ∧ n ≤ 20 := by
  have h := nDig_bd d
  exact ⟨(nDig d).toNat, by omega, by omega⟩
theorem nb1 (n : Nat) (p : Int) (hn : n ≤ 20) (p0 : -324 ≤ p) (p1 : p ≤ 325) : -400 ≤ (n : Int) + p ∧ (n : Int) + p ≤ 400 := by omega
theorem zeros_len : zeros32.length = 32 := by simp [zeros32]

set_option maxHeartbeats 1000000 in
set_option maxRecDepth 100000 in
theorem ftoa_norm (b : Nat) (hb : b < 18446744073709551616) (w0 w : World) (v : Value) (h : St w0 none [] w v []) (hL : LaidF w0) (h1 : (b : Int) / 4503599627370496 % 2048 ≠ 2047) (h2 : (b : Int) / 4503599627370496 % 2048 ≠ 0) :
    Calls Tryz.prog 68 #[v, .float .f64 b, .int .u8 103, .int .i64 (-1)] w fun e w' => ∃ v', e = .returned v' ∧ Tells w' v' (tailV ((b : Int) / 9223372036854775808 != 0) ((b : Int) % 4503599627370496 + 4503599627370496) ((b : Int) / 4503599627370496 % 2048 + -1023)) ∧ Below w0.heap.size w0 w' := by
  have hE := and_exp b hb
  have hM := and_man b hb
  obtain ⟨e0, he⟩ : ∃ e0, (b : Int) / 4503599627370496 % 2048 = e0 := ⟨_, rfl⟩
  have he0 : 0 ≤ e0 := by omega
  have he1 : e0 < 2047 := by omega
  rw [he] at hE h1 h2 ⊢
  have heg : 1 ≤ e0 := by omega
  obtain ⟨m0, hm⟩ : ∃ m0, (b : Int) % 4503599627370496 = m0 := ⟨_, rfl⟩
  have hm0 : 0 ≤ m0 := by omega
  have hm1 : m0 < 4503599627370496 := by omega
  rw [hm] at hM ⊢
  have hO := or_man m0 hm0 hm1
  obtain ⟨M, hMM⟩ : ∃ M, m0 + 4503599627370496 = M := ⟨_, rfl⟩
  rw [hMM] at hO ⊢
  have M1 : 1 ≤ M := by omega
  have M2 : M < 9007199254740992 := by omega
  have t1 : (e0 == 2047) = false := beq_eq_false_iff_ne.2 h1
  have t2 : (e0 == 0) = false := beq_eq_false_iff_ne.2 h2
  obtain ⟨ng, hq⟩ : ∃ q, ((b : Int) / 9223372036854775808 != 0) = q := ⟨_, rfl⟩
  rw [hq]
  have t3 : (M == 0) = false := beq_eq_false_iff_ne.2 (by omega)
  have hl := len64_mant M M1 M2
  obtain ⟨L, hLL⟩ : ∃ L, len64 M = L := ⟨_, rfl⟩
  rw [hLL] at hl
  obtain ⟨L0, L1⟩ := hl
  have HLL := Aside0.mk hLL
  obtain ⟨d, p, hdp⟩ : ∃ d p, shV (IntKind.u64.wrap (M * 2 ^ (64 - L).toNat)) (e0 + -1023 - (64 - L) - 52) = (d, p) := ⟨_, _, rfl⟩
  have hdb := shV_bd (IntKind.u64.wrap (M * 2 ^ (64 - L).toNat)) (e0 + -1023 - (64 - L) - 52) (by omega) (by omega)
  rw [hdp] at hdb
  obtain ⟨d0, d1, p0, p1⟩ := hdb
  dsimp only at d0 d1 p0 p1
  obtain ⟨n, hn, n2⟩ := nDig_nat d
  have hnp := nb1 n p n2 p0 p1
  have dd : d ≤ 18446744073709551615 := Int.le_trans d1 (by decide)
  have pp0 : -1000 ≤ p := Int.le_trans (by decide) p0
  have pp1 : p ≤ 1000 := Int.le_trans p1 (by decide)
  obtain ⟨es, hes⟩ : ∃ es, b10 4 n d zeros32 = es := ⟨_, rfl⟩
  have hel : es.length = 32 := by rw [← hes, b10_len, zeros_len]
  have HEL := Aside0.mk hel
  have HES := Aside0.mk hes
  obtain ⟨k, hk⟩ : ∃ k, strip es n = k := ⟨_, rfl⟩
  have hk2 := strip_le es n
  rw [hk] at hk2
  have HV : Aside0 (tailV ng M (e0 + -1023) = efgV ng es (n + p) k) := ⟨by unfold tailV; simp only [hLL, hdp, hn, Int.toNat_natCast, hes, hk]⟩
  rw [HV.out]
  have HDP := Aside0.mk hdp
  have HN := Aside0.mk hn
  have HK := Aside0.mk hk
  have HLW := Aside0.mk hL
  have HZ := Aside0.mk (h.drewN 0)
  have HSW := Aside0.mk h
  clear h hL hLL hdp hn hk hes hel HV hm he h1 h2 hMM
  go_enter Tryz.func68, Tryz.ntmps68
  go_wp2_with fail
  go_quiet (fail)
  go_wp2_with (first | (go_at_call 100; refine (len_any M (by omega) (by omega) _).mono ?_; rw [HLL.out]; rintro e_ w_ ⟨rfl, rfl⟩) | (go_at_call 109; have hs_ := (HSW.out.drewN nq).with_buf (ds := zeros32); refine (short_any _ _ (wrap_u64 _).1 (wrap_u64 _).2 (by omega) (by omega) _ (HLW.out.below hs_.bel)).mono ?_; simp only [HDP.out]; rintro e_ w_ ⟨rfl, hb_⟩; have HS := Aside0.mk (hs_.below hb_); clear hs_ hb_))
  refine start_ (n := 11) (S := fun w' => True) (ds := []) #[false, false, false, false, false, false, false, false, false, false, false] (by kernel_rfl) rfl rfl trivial (fun hHeld => ?_)
  refine pure_ (i := 1) (N := (some 141)) (v := ?_) (a' := ?_) #[false, true, false, false, false, false, false, false, false, false, false] rfl rfl (by kernel_rfl) (fun _ _ _ h => h) (Or.inl ⟨by rfl, ?_⟩) ?_ ?_
  rotate_left
  · intro w'
    go_simp
    with_reducible rfl
  rotate_left
  · simp only [Act.put, List.setIfInBounds_toArray, List.set_cons_zero, List.set_cons_succ, i64_w, i32_w]
    rfl
  refine pure_ (i := 2) (N := (some 142)) (v := ?_) (a' := ?_) #[false, true, true, false, false, false, false, false, false, false, false] rfl rfl (by kernel_rfl) (fun _ _ _ h => h) (Or.inl ⟨by rfl, ?_⟩) ?_ ?_
  rotate_left
  · intro w'
    go_simp
    with_reducible rfl
  rotate_left
  · simp only [Act.put, List.setIfInBounds_toArray, List.set_cons_zero, List.set_cons_succ, i64_w, i32_w]
    rfl
  refine pure_ (i := 3) (N := (some 143)) (v := ?_) (a' := ?_) #[false, true, true, true, false, false, false, false, false, false, false] rfl rfl (by kernel_rfl) (fun _ _ _ h => h) (Or.inl ⟨by rfl, ?_⟩) ?_ ?_
  rotate_left
  · intro w'
    go_simp
    with_reducible rfl
  rotate_left
  · simp only [Act.put, List.setIfInBounds_toArray, List.set_cons_zero, List.set_cons_succ, i64_w, i32_w]
    rfl
  refine pure_ (i := 0) (N := (some 140)) (v := ?_) (a' := ?_) #[true, true, true, true, false, false, false, false, false, false, false] rfl rfl (by kernel_rfl) (fun _ _ _ h => h) (Or.inl ⟨by rfl, ?_⟩) ?_ ?_
  rotate_left
  · intro w'
    go_simp
    with_reducible rfl
  rotate_left
  · simp only [Act.put, List.setIfInBounds_toArray, List.set_cons_zero, List.set_cons_succ, i64_w, i32_w]
    rfl
  refine one_ (i := 4) (N := (some 144)) #[true, true, true, true, true, false, false, false, false, false, false] rfl rfl (by kernel_rfl) (by decide) (fun K hK => ?_)
  refine goes_ Tryz.func103 (by kernel_rfl) rfl #[.int .u64 d] (by rfl) rfl rfl (by (try simp only [List.map_toArray, List.map_cons, List.map_nil]); first | done | rfl) ?_
  refine (numDigits_any d d0 dd _ (HLW.out.below (by first | exact HS.out.bel | exact (HS.out.drewN 1).bel))).mono ?_
  rintro e_ w3 ⟨rfl, ⟨m3, rfl⟩⟩
  refine ⟨_, rfl, ?_⟩
  have HS2 := Aside0.mk ((HS.out.drewN 1).drewN m3)
  rw [HN.out]
  refine hK.out _ _ trivial (fun hHeld => ?_)
  clear hK K
  refine norm_ (a' := ?_) ?_ ?_
  rotate_left
  · show Act.put _ (some 144) _ = _
    simp only [Act.put, List.setIfInBounds_toArray, List.set_cons_zero, List.set_cons_succ, i64_w, i32_w]
    rfl
  refine one_ (i := 5) (N := (some 145)) #[true, true, true, true, true, true, false, false, false, false, false] rfl rfl (by kernel_rfl) (by decide) (fun K hK => ?_)
  refine goes_ Tryz.func102 (by kernel_rfl) rfl #[.slice (some ⟨w.heap.size, 0, none⟩) 32 32, .int .u64 d, .int .i64 p, .int .i64 n] (by rfl) rfl rfl (by (try simp only [List.map_toArray, List.map_cons, List.map_nil]); first | done | rfl) ?_
  refine (setDigits_any _ zeros32 d p n zeros_len n2 d0 dd pp0 pp1 _ (HS2.out.src _ rfl)).mono ?_
  rintro e_ w4 ⟨rfl, hb_, hk_⟩
  refine ⟨_, rfl, ?_⟩
  rw [HES.out] at hb_ ⊢
  have HS3 : Aside0 (St w0 (some w.heap.size) es w4 v []) := ⟨HS2.out.buf hk_ hb_ (HSW.out.bel.size)⟩
  clear hb_ hk_
  rw [HK.out]
  refine hK.out _ _ trivial (fun hHeld => ?_)
  clear hK K
  refine norm_ (a' := ?_) ?_ ?_
  rotate_left
  · show Act.put _ (some 145) _ = _
    simp only [Act.put, List.setIfInBounds_toArray, List.set_cons_zero, List.set_cons_succ, i64_w, i32_w]
    rfl
  refine pure_ (i := 6) (N := (some 139)) (v := ?_) (a' := ?_) #[true, true, true, true, true, true, true, false, false, false, false] rfl rfl (by kernel_rfl) (fun _ _ _ h => h) (Or.inl ⟨by rfl, ?_⟩) ?_ ?_
  rotate_left
  · intro w'
    go_simp
    with_reducible rfl
  rotate_left
  · simp only [Act.put, List.setIfInBounds_toArray, List.set_cons_zero, List.set_cons_succ, i64_w, i32_w]
    rfl
  refine pure_ (i := 7) (N := (some 146)) (v := ?_) (a' := ?_) #[true, true, true, true, true, true, true, true, false, false, false] rfl rfl (by kernel_rfl) (fun _ _ _ h => h) (Or.inl ⟨by rfl, ?_⟩) ?_ ?_
  rotate_left
  · intro w'
    go_simp
    with_reducible rfl
  rotate_left
  · simp only [Act.put, List.setIfInBounds_toArray, List.set_cons_zero, List.set_cons_succ, i64_w, i32_w]
    rfl
  refine pure_ (i := 8) (N := (some 147)) (v := ?_) (a' := ?_) #[true, true, true, true, true, true, true, true, true, false, false] rfl rfl (by kernel_rfl) (fun _ _ _ h => h) (Or.inl ⟨by rfl, ?_⟩) ?_ ?_
  rotate_left
  · intro w'
    go_simp
    with_reducible rfl
  rotate_left
  · simp only [Act.put, List.setIfInBounds_toArray, List.set_cons_zero, List.set_cons_succ, i64_w, i32_w]
    rfl
  refine pure_ (i := 9) (N := (some 22)) (v := ?_) (a' := ?_) #[true, true, true, true, true, true, true, true, true, true, false] rfl rfl (by kernel_rfl) (fun _ _ _ h => h) (Or.inl ⟨by rfl, ?_⟩) ?_ ?_
  rotate_left
  · intro w'
    go_simp
    with_reducible rfl
  rotate_left
  · simp only [Act.put, List.setIfInBounds_toArray, List.set_cons_zero, List.set_cons_succ, i64_w, i32_w]
    rfl
  refine pure_ (i := 10) (N := (some 23)) (v := ?_) (a' := ?_) #[true, true, true, true, true, true, true, true, true, true, true] rfl rfl (by kernel_rfl) (fun _ _ _ h => h) (Or.inl ⟨by rfl, ?_⟩) ?_ ?_
  rotate_left
  · intro w'
    go_simp
    with_reducible rfl
  rotate_left
  · simp only [Act.put, List.setIfInBounds_toArray, List.set_cons_zero, List.set_cons_succ, i64_w, i32_w]
    rfl
  refine done_ (by kernel_rfl) ?_
  go_wp2_with (first | (go_at_call 99; refine (efg_any ng _ _ _ _ HEL.out (Nat.le_trans hk2 n2) hnp.1 hnp.2 w0 _ _ HS3.out).mono ?_; rintro e_ w5 ⟨v_, rfl, hs_⟩; have HS4 := Aside0.mk hs_; clear hs_))
  go_ret
  exact ⟨_, rfl, HS4.out.tells, HS4.out.bel⟩
set_option maxHeartbeats 1000000 in
set_option maxRecDepth 100000 in
theorem ftoa_sub (b : Nat) (hb : b < 18446744073709551616) (w0 w : World) (v : Value) (h : St w0 none [] w v []) (hL : LaidF w0) (h1 : (b : Int) / 4503599627370496 % 2048 = 0) (h2 : (b : Int) % 4503599627370496 ≠ 0) :
    Calls Tryz.prog 68 #[v, .float .f64 b, .int .u8 103, .int .i64 (-1)] w fun e w' => ∃ v', e = .returned v' ∧ Tells w' v' (tailV ((b : Int) / 9223372036854775808 != 0) ((b : Int) % 4503599627370496) (-1022)) ∧ Below w0.heap.size w0 w' := by
  have hE := and_exp b hb
  have hM := and_man b hb
  rw [h1] at hE
  obtain ⟨m0, hm⟩ : ∃ m0, (b : Int) % 4503599627370496 = m0 := ⟨_, rfl⟩
  have hm0 : 0 ≤ m0 := by omega
  have hm1 : m0 < 4503599627370496 := by omega
  rw [hm] at hM h2 ⊢
  obtain ⟨M, rfl⟩ : ∃ M, M = m0 := ⟨_, rfl⟩
  have M1 : 1 ≤ M := by omega
  have M2 : M < 9007199254740992 := by omega
  obtain ⟨ng, hq⟩ : ∃ q, ((b : Int) / 9223372036854775808 != 0) = q := ⟨_, rfl⟩
  rw [hq]
  have t3 : (M == 0) = false := beq_eq_false_iff_ne.2 (by omega)
  have hl := len64_mant M M1 M2
  obtain ⟨L, hLL⟩ : ∃ L, len64 M = L := ⟨_, rfl⟩
  rw [hLL] at hl
  obtain ⟨L0, L1⟩ := hl
  have HLL := Aside0.mk hLL
  obtain ⟨d, p, hdp⟩ : ∃ d p, shV (IntKind.u64.wrap (M * 2 ^ (64 - L).toNat)) (-1022 - (64 - L) - 52) = (d, p) := ⟨_, _, rfl⟩
  have hdb := shV_bd (IntKind.u64.wrap (M * 2 ^ (64 - L).toNat)) (-1022 - (64 - L) - 52) (by omega) (by omega)
  rw [hdp] at hdb
  obtain ⟨d0, d1, p0, p1⟩ := hdb
  dsimp only at d0 d1 p0 p1
  obtain ⟨n, hn, n2⟩ := nDig_nat d
  have hnp := nb1 n p n2 p0 p1
  have dd : d ≤ 18446744073709551615 := Int.le_trans d1 (by decide)
  have pp0 : -1000 ≤ p := Int.le_trans (by decide) p0
  have pp1 : p ≤ 1000 := Int.le_trans p1 (by decide)
  obtain ⟨es, hes⟩ : ∃ es, b10 4 n d zeros32 = es := ⟨_, rfl⟩
  have hel : es.length = 32 := by rw [← hes, b10_len, zeros_len]
  have HEL := Aside0.mk hel
  have HES := Aside0.mk hes
  obtain ⟨k, hk⟩ : ∃ k, strip es n = k := ⟨_, rfl⟩
  have hk2 := strip_le es n
  rw [hk] at hk2
  have HV : Aside0 (tailV ng M (-1022) = efgV ng es (n + p) k) := ⟨by unfold tailV; simp only [hLL, hdp, hn, Int.toNat_natCast, hes, hk]⟩
  rw [HV.out]
  have HDP := Aside0.mk hdp
  have HN := Aside0.mk hn
  have HK := Aside0.mk hk
  have HLW := Aside0.mk hL
  have HZ := Aside0.mk (h.drewN 0)
  have HSW := Aside0.mk h
  clear h hL hLL hdp hn hk hes hel HV hm h1 h2
  go_enter Tryz.func68, Tryz.ntmps68
  go_wp2_with fail
  go_quiet (fail)
  go_wp2_with (first | (go_at_call 100; refine (len_any M (by omega) (by omega) _).mono ?_; rw [HLL.out]; rintro e_ w_ ⟨rfl, rfl⟩) | (go_at_call 109; have hs_ := (HSW.out.drewN nq).with_buf (ds := zeros32); refine (short_any _ _ (wrap_u64 _).1 (wrap_u64 _).2 (by omega) (by omega) _ (HLW.out.below hs_.bel)).mono ?_; simp only [HDP.out]; rintro e_ w_ ⟨rfl, hb_⟩; have HS := Aside0.mk (hs_.below hb_); clear hs_ hb_))
  refine start_ (n := 11) (S := fun w' => True) (ds := []) #[false, false, false, false, false, false, false, false, false, false, false] (by kernel_rfl) rfl rfl trivial (fun hHeld => ?_)
  refine pure_ (i := 1) (N := (some 141)) (v := ?_) (a' := ?_) #[false, true, false, false, false, false, false, false, false, false, false] rfl rfl (by kernel_rfl) (fun _ _ _ h => h) (Or.inl ⟨by rfl, ?_⟩) ?_ ?_
  rotate_left
  · intro w'
    go_simp
    with_reducible rfl
  rotate_left
  · simp only [Act.put, List.setIfInBounds_toArray, List.set_cons_zero, List.set_cons_succ, i64_w, i32_w]
    rfl
  refine pure_ (i := 2) (N := (some 142)) (v := ?_) (a' := ?_) #[false, true, true, false, false, false, false, false, false, false, false] rfl rfl (by kernel_rfl) (fun _ _ _ h => h) (Or.inl ⟨by rfl, ?_⟩) ?_ ?_
  rotate_left
  · intro w'
    go_simp
    with_reducible rfl
  rotate_left
  · simp only [Act.put, List.setIfInBounds_toArray, List.set_cons_zero, List.set_cons_succ, i64_w, i32_w]
    rfl
  refine pure_ (i := 3) (N := (some 143)) (v := ?_) (a' := ?_) #[false, true, true, true, false, false, false, false, false, false, false] rfl rfl (by kernel_rfl) (fun _ _ _ h => h) (Or.inl ⟨by rfl, ?_⟩) ?_ ?_
  rotate_left
  · intro w'
    go_simp
    with_reducible rfl
  rotate_left
  · simp only [Act.put, List.setIfInBounds_toArray, List.set_cons_zero, List.set_cons_succ, i64_w, i32_w]
    rfl
  refine pure_ (i := 0) (N := (some 140)) (v := ?_) (a' := ?_) #[true, true, true, true, false, false, false, false, false, false, false] rfl rfl (by kernel_rfl) (fun _ _ _ h => h) (Or.inl ⟨by rfl, ?_⟩) ?_ ?_
  rotate_left
  · intro w'
    go_simp
    with_reducible rfl
  rotate_left
  · simp only [Act.put, List.setIfInBounds_toArray, List.set_cons_zero, List.set_cons_succ, i64_w, i32_w]
    rfl
  refine one_ (i := 4) (N := (some 144)) #[true, true, true, true, true, false, false, false, false, false, false] rfl rfl (by kernel_rfl) (by decide) (fun K hK => ?_)
  refine goes_ Tryz.func103 (by kernel_rfl) rfl #[.int .u64 d] (by rfl) rfl rfl (by (try simp only [List.map_toArray, List.map_cons, List.map_nil]); first | done | rfl) ?_
  refine (numDigits_any d d0 dd _ (HLW.out.below (by first | exact HS.out.bel | exact (HS.out.drewN 1).bel))).mono ?_
  rintro e_ w3 ⟨rfl, ⟨m3, rfl⟩⟩
  refine ⟨_, rfl, ?_⟩
  have HS2 := Aside0.mk ((HS.out.drewN 1).drewN m3)
  rw [HN.out]
  refine hK.out _ _ trivial (fun hHeld => ?_)
  clear hK K
  refine norm_ (a' := ?_) ?_ ?_
  rotate_left
  · show Act.put _ (some 144) _ = _
    simp only [Act.put, List.setIfInBounds_toArray, List.set_cons_zero, List.set_cons_succ, i64_w, i32_w]
    rfl
  refine one_ (i := 5) (N := (some 145)) #[true, true, true, true, true, true, false, false, false, false, false] rfl rfl (by kernel_rfl) (by decide) (fun K hK => ?_)
  refine goes_ Tryz.func102 (by kernel_rfl) rfl #[.slice (some ⟨w.heap.size, 0, none⟩) 32 32, .int .u64 d, .int .i64 p, .int .i64 n] (by rfl) rfl rfl (by (try simp only [List.map_toArray, List.map_cons, List.map_nil]); first | done | rfl) ?_
  refine (setDigits_any _ zeros32 d p n zeros_len n2 d0 dd pp0 pp1 _ (HS2.out.src _ rfl)).mono ?_
  rintro e_ w4 ⟨rfl, hb_, hk_⟩
  refine ⟨_, rfl, ?_⟩
  rw [HES.out] at hb_ ⊢
  have HS3 : Aside0 (St w0 (some w.heap.size) es w4 v []) := ⟨HS2.out.buf hk_ hb_ (HSW.out.bel.size)⟩
  clear hb_ hk_
  rw [HK.out]
  refine hK.out _ _ trivial (fun hHeld => ?_)
  clear hK K
  refine norm_ (a' := ?_) ?_ ?_
  rotate_left
  · show Act.put _ (some 145) _ = _
    simp only [Act.put, List.setIfInBounds_toArray, List.set_cons_zero, List.set_cons_succ, i64_w, i32_w]
    rfl
  refine pure_ (i := 6) (N := (some 139)) (v := ?_) (a' := ?_) #[true, true, true, true, true, true, true, false, false, false, false] rfl rfl (by kernel_rfl) (fun _ _ _ h => h) (Or.inl ⟨by rfl, ?_⟩) ?_ ?_
  rotate_left
  · intro w'
    go_simp
    with_reducible rfl
  rotate_left
  · simp only [Act.put, List.setIfInBounds_toArray, List.set_cons_zero, List.set_cons_succ, i64_w, i32_w]
    rfl
  refine pure_ (i := 7) (N := (some 146)) (v := ?_) (a' := ?_) #[true, true, true, true, true, true, true, true, false, false, false] rfl rfl (by kernel_rfl) (fun _ _ _ h => h) (Or.inl ⟨by rfl, ?_⟩) ?_ ?_
  rotate_left
  · intro w'
    go_simp
    with_reducible rfl
  rotate_left
  · simp only [Act.put, List.setIfInBounds_toArray, List.set_cons_zero, List.set_cons_succ, i64_w, i32_w]
    rfl
  refine pure_ (i := 8) (N := (some 147)) (v := ?_) (a' := ?_) #[true, true, true, true, true, true, true, true, true, false, false] rfl rfl (by kernel_rfl) (fun _ _ _ h => h) (Or.inl ⟨by rfl, ?_⟩) ?_ ?_
  rotate_left
  · intro w'
    go_simp
    with_reducible rfl
  rotate_left
  · simp only [Act.put, List.setIfInBounds_toArray, List.set_cons_zero, List.set_cons_succ, i64_w, i32_w]
    rfl
  refine pure_ (i := 9) (N := (some 22)) (v := ?_) (a' := ?_) #[true, true, true, true, true, true, true, true, true, true, false] rfl rfl (by kernel_rfl) (fun _ _ _ h => h) (Or.inl ⟨by rfl, ?_⟩) ?_ ?_
  rotate_left
  · intro w'
    go_simp
    with_reducible rfl
  rotate_left
  · simp only [Act.put, List.setIfInBounds_toArray, List.set_cons_zero, List.set_cons_succ, i64_w, i32_w]
    rfl
  refine pure_ (i := 10) (N := (some 23)) (v := ?_) (a' := ?_) #[true, true, true, true, true, true, true, true, true, true, true] rfl rfl (by kernel_rfl) (fun _ _ _ h => h) (Or.inl ⟨by rfl, ?_⟩) ?_ ?_
  rotate_left
  · intro w'
    go_simp
    with_reducible rfl
  rotate_left
  · simp only [Act.put, List.setIfInBounds_toArray, List.set_cons_zero, List.set_cons_succ, i64_w, i32_w]
    rfl
  refine done_ (by kernel_rfl) ?_
  go_wp2_with (first | (go_at_call 99; refine (efg_any ng _ _ _ _ HEL.out (Nat.le_trans hk2 n2) hnp.1 hnp.2 w0 _ _ HS3.out).mono ?_; rintro e_ w5 ⟨v_, rfl, hs_⟩; have HS4 := Aside0.mk hs_; clear hs_))
  go_ret
  exact ⟨_, rfl, HS4.out.tells, HS4.out.bel⟩
end Go.Proofs.YtjleceekccehoaaGreatDoor.Pr
