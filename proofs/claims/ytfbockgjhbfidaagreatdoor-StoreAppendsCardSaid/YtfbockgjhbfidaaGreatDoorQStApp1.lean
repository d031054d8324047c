/- Texts of this session, cut down to what one claim needs and joined: StApp1. -/
import Derived.Test.YtfbockgjhbfidaaGreatDoorQStApp0
set_option linter.unusedVariables false
set_option linter.unusedSimpArgs false
namespace Go.Proofs.YtfbockgjhbfidaaGreatDoor.Pr
open Go.RowKit Go.Proofs.YtfbockgjhbfidaaGreatDoorW.PrintWords Go.Proofs.YtfbockgjhbfidaaGreatDoorW.PrintLast Go.Proofs.YtfbockgjhbfidaaGreatDoorW.PrintMore
attribute [local go_sem] errW_none errW_some

section
variable (A0 : Option Addr) (c0 : Nat) (s : List S47) (A1 : Option Addr) (c1 : Nat) (l : List S44) (t v : Int) (w : World)
set_option maxHeartbeats 8000000 in
set_option maxRecDepth 100000 in
theorem append_empty (hL : LaidAll w) (hr0 : Kd.C k47 w A0 s.length s) (hc0 : s.length ≤ c0) (hr1 : Kd.C k44 w A1 l.length l) (hc1 : l.length ≤ c1) (ho : okS s) (hl : smallL l) (hr : RightP s) (m : List S44) (hm : makeV (sortL l) = (m, none)) (hm0 : m.length = 0) :
  Calls Tryz.prog 8 #[.slice A0 s.length c0, .slice A1 l.length c1, .agg #[.int .i64 t, .int .u64 v]] w (AppPost w ([], some 1)) := by
 have hRt := rightS_some s ho
 rw [decide_eq_true hr] at hRt
 obtain ⟨w0, hw0⟩ : ∃ w0, w0 = w.alloc (.cells #[.int .i64 t, .int .u64 v] 26) := ⟨_, rfl⟩
 have hbw0 : Below w.heap.size w w0 := by rw [hw0]; exact below_alloc (Below.refl _ _) _
 have hP0 : w0.cell? ⟨w.heap.size, 0, none⟩ = some (.int .i64 t) := by rw [hw0]; go_simp
 have hP1 : w0.cell? ⟨w.heap.size, 1, none⟩ = some (.int .u64 v) := by rw [hw0]; go_simp
 have hP2 : w0.frozen? ⟨w.heap.size, 1, none⟩ = false := by rw [hw0]; go_simp
 have hmlen : m.length ≤ 1000 := by
  have h1 := madeLen (sortL l)
  rw [hm, (sortL_perm l).length_eq] at h1
  have h2 := hl.1
  exact Nat.le_trans h1 h2
 have HR := Aside0.mk (store_Right.calls (s.length + 1000003) A0 c0 s _ w0 ⟨hL.below hbw0⟩ (Kd.C_below hr0 hbw0) hc0 hRt)
 have hMk : label_Make.f l = some (m, none) := by rw [small_dec l hl, hm]
 have HM := Aside0.mk (fun w1 (hb1 : Below w.heap.size w w1) => label_Make.calls A1 c1 l _ _ w1 (Kd.C_below hr1 hb1) hc1 ⟨hL.below hb1⟩ hMk)
 have HP0 := Aside0.mk hP0
 have HP1 := Aside0.mk hP1
 have HP2 := Aside0.mk hP2
 have HB0 := Aside0.mk hbw0
 have HW0 := Aside0.mk hw0
 have HL := Aside0.mk hL
 have HR0 := Aside0.mk hr0
 have HC0 := Aside0.mk hc0
 have HO := Aside0.mk ho
 have HS := Aside0.mk hr
 have HML := Aside0.mk hmlen
 clear hL hr0 hc0 hr1 hc1 ho hl hr hRt hMk hP0 hP1 hP2 hbw0 hm hmlen hw0
 obtain rfl : m = [] := List.eq_nil_of_length_eq_zero hm0
 clear hm0
 go_enter Tryz.func8, Tryz.ntmps8
 go_wp2_with (first
  | (go_at_call 14; rw [← HW0.out]; refine HR.out.mono ?_; rintro e w2 ⟨rfl, hb2⟩; have HB2 := Aside0.mk (below_step HB0.out hb2); have HQ0 := Aside0.mk (pw_cell_below hb2 HP0.out); have HQ1 := Aside0.mk (pw_cell_below hb2 HP1.out); have HQ2 := Aside0.mk ((hb2.frozen (p := ⟨w.heap.size, 1, none⟩) (World.block_lt_of_cell? w0 _ HP1.out)).trans HP2.out); clear hb2)
  | (go_at_call 18; refine (HM.out _ HB2.out).mono ?_; rintro e w3 ⟨v3, rfl, ho3, hb3⟩; obtain ⟨A3, c3, rfl, hc3, hC3⟩ := Kd.R_reads ho3; have HB3 := Aside0.mk (below_step HB2.out hb3); have h30 := pw_cell_below hb3 HQ0.out; have h31 := pw_cell_below hb3 HQ1.out; have h32 := (hb3.frozen (p := ⟨w.heap.size, 1, none⟩) (World.block_lt_of_cell? w2 _ HQ1.out)).trans HQ2.out; have HLT := Aside0.mk (Nat.lt_of_lt_of_le (World.block_lt_of_cell? w2 _ HQ0.out) (Nat.le_refl _)); have HO3 := Aside0.mk ho3; have HC3 := Aside0.mk hc3; clear hb3 ho3 hc3 hC3))
 go_ret2
 exact AppPost.no HB3.out
set_option maxHeartbeats 8000000 in
set_option maxRecDepth 100000 in
theorem append_time (hL : LaidAll w) (hr0 : Kd.C k47 w A0 s.length s) (hc0 : s.length ≤ c0) (hr1 : Kd.C k44 w A1 l.length l) (hc1 : l.length ≤ c1) (ho : okS s) (hl : smallL l) (hr : RightP s) (m : List S44) (hm : makeV (sortL l) = (m, none)) (hm0 : 0 < m.length) (ht : ¬ TimP t) :
  Calls Tryz.prog 8 #[.slice A0 s.length c0, .slice A1 l.length c1, .agg #[.int .i64 t, .int .u64 v]] w (AppPost w ([], some 4)) := by
 have hRt := rightS_some s ho
 rw [decide_eq_true hr] at hRt
 obtain ⟨w0, hw0⟩ : ∃ w0, w0 = w.alloc (.cells #[.int .i64 t, .int .u64 v] 26) := ⟨_, rfl⟩
 have hbw0 : Below w.heap.size w w0 := by rw [hw0]; exact below_alloc (Below.refl _ _) _
 have hP0 : w0.cell? ⟨w.heap.size, 0, none⟩ = some (.int .i64 t) := by rw [hw0]; go_simp
 have hP1 : w0.cell? ⟨w.heap.size, 1, none⟩ = some (.int .u64 v) := by rw [hw0]; go_simp
 have hP2 : w0.frozen? ⟨w.heap.size, 1, none⟩ = false := by rw [hw0]; go_simp
 have hmlen : m.length ≤ 1000 := by
  have h1 := madeLen (sortL l)
  rw [hm, (sortL_perm l).length_eq] at h1
  have h2 := hl.1
  exact Nat.le_trans h1 h2
 have HR := Aside0.mk (store_Right.calls (s.length + 1000003) A0 c0 s _ w0 ⟨hL.below hbw0⟩ (Kd.C_below hr0 hbw0) hc0 hRt)
 have hMk : label_Make.f l = some (m, none) := by rw [small_dec l hl, hm]
 have HM := Aside0.mk (fun w1 (hb1 : Below w.heap.size w w1) => label_Make.calls A1 c1 l _ _ w1 (Kd.C_below hr1 hb1) hc1 ⟨hL.below hb1⟩ hMk)
 have HP0 := Aside0.mk hP0
 have HP1 := Aside0.mk hP1
 have HP2 := Aside0.mk hP2
 have HB0 := Aside0.mk hbw0
 have HW0 := Aside0.mk hw0
 have HL := Aside0.mk hL
 have HR0 := Aside0.mk hr0
 have HC0 := Aside0.mk hc0
 have HO := Aside0.mk ho
 have HS := Aside0.mk hr
 have HML := Aside0.mk hmlen
 clear hL hr0 hc0 hr1 hc1 ho hl hr hRt hMk hP0 hP1 hP2 hbw0 hm hmlen hw0
 have hmz : ((m.length : Int) == 0) = false := by rw [beq_eq_false_iff_ne]; omega
 have hmz2 : ¬ ((m.length : Int) = 0) := by omega
 have HT : Aside0 (store_timely.f t = some false) := ⟨by rw [timely_some, decide_eq_false ht]⟩
 clear hm0 ht
 go_enter Tryz.func8, Tryz.ntmps8
 go_wp2_with (first
  | (go_at_call 14; rw [← HW0.out]; refine HR.out.mono ?_; rintro e w2 ⟨rfl, hb2⟩; have HB2 := Aside0.mk (below_step HB0.out hb2); have HQ0 := Aside0.mk (pw_cell_below hb2 HP0.out); have HQ1 := Aside0.mk (pw_cell_below hb2 HP1.out); have HQ2 := Aside0.mk ((hb2.frozen (p := ⟨w.heap.size, 1, none⟩) (World.block_lt_of_cell? w0 _ HP1.out)).trans HP2.out); clear hb2)
  | (go_at_call 18; refine (HM.out _ HB2.out).mono ?_; rintro e w3 ⟨v3, rfl, ho3, hb3⟩; obtain ⟨A3, c3, rfl, hc3, hC3⟩ := Kd.R_reads ho3; have HB3 := Aside0.mk (below_step HB2.out hb3); have h30 := pw_cell_below hb3 HQ0.out; have h31 := pw_cell_below hb3 HQ1.out; have h32 := (hb3.frozen (p := ⟨w.heap.size, 1, none⟩) (World.block_lt_of_cell? w2 _ HQ1.out)).trans HQ2.out; have HLT := Aside0.mk (Nat.lt_of_lt_of_le (World.block_lt_of_cell? w2 _ HQ0.out) (Nat.le_refl _)); have HO3 := Aside0.mk ho3; have HC3 := Aside0.mk hc3; clear hb3 ho3 hc3 hC3)
  | (go_at_call 19; refine (store_timely.calls t false _ HT.out).mono ?_; rintro e w4 ⟨rfl, n4, rfl⟩))
 go_ret2
 exact AppPost.no (by repeat (first | exact HB3.out | apply below_alloc | apply pw_below_drewN | apply below_drew1))
/-- What holds behind p.V = value.Norm(p.V). -/
theorem app_at4 (w w2 w3 w4 : World) (b5 n4 : Nat) (A3 : Option Addr) (c3 : Nat) (m : List S44) (t nv : Int) {v : Value} (hb5 : w.heap.size ≤ b5) (hb3 : Below w.heap.size w w3) (hlt : b5 < w2.heap.size) (h0 : w3.cell? ⟨b5, 0, none⟩ = some (.int .i64 t)) (h1 : w3.cell? ⟨b5, 1, none⟩ = some v) (hw4 : w4 = (w3.setCell ⟨b5, 1, none⟩ (.int .u64 nv)).drewN n4) (ho : Kd.R k44 44 w3 w2.heap.size (fun _ => True) (.slice A3 m.length c3) m) :
  Below w.heap.size w w4 ∧ w4.cell? ⟨b5, 0, none⟩ = some (.int .i64 t) ∧ w4.cell? ⟨b5, 1, none⟩ = some (.int .u64 nv) ∧ Kd.C k44 w4 A3 m.length m ∧ Kd.R k44 44 w4 0 (fun _ => True) (.slice A3 m.length c3) m := by
 subst hw4
 refine ⟨pw_below_drewN (hb3.setCell (by show w.heap.size ≤ b5; omega) _) _, ?_, ?_, ?_⟩
 ·have h : (w3.setCell ⟨b5, 1, none⟩ (.int .u64 nv)).cell? ⟨b5, 0, none⟩ = some (.int .i64 t) := by go_simp
  exact h
 ·have h : (w3.setCell ⟨b5, 1, none⟩ (.int .u64 nv)).cell? ⟨b5, 1, none⟩ = some (.int .u64 nv) := by go_simp
  exact h
 ·have h2 : Kd.R k44 44 (w3.setCell ⟨b5, 1, none⟩ (.int .u64 nv)) w2.heap.size (fun _ => True) (.slice A3 m.length c3) m :=
   Kd.R_mono (Kd.R_step (Kd.R_bound ho) (fun k hk _ => Below.heap_setCell w3 ⟨b5, 1, none⟩ _ k (by have := hk.2.1; show k ≠ b5; omega))) (fun _ _ => trivial)
  obtain ⟨A, c, e2, _, hC⟩ := Kd.R_reads (Kd.R_drewN h2 n4)
  injection e2 with e3 _ _
  subst e3
  exact ⟨hC, Kd.R_lower (Kd.R_drewN h2 n4) (Nat.zero_le _)⟩
theorem val_step {P : Program} {ops : Array Oper} {oi : Oper} {a : Act} {w w1 : World} {N : Option Tmp} {v : Value} {K : Act → World → Prop} {Q : Exit → Act → World → Prop} (hw : Region.wanted oi (yielded ops a.tmps) = true) (hN : oi.dst = N) (hrun : (execOp a.eval oi).run P w = .ok (.value v) w1)
  (h : K (a.put N v) w1) : if Region.wanted oi (yielded ops a.tmps) = true then Oper.wp P oi a w K Q else K (a.put N undef) w := by
 rw [if_pos hw]
 unfold Oper.wp
 rw [hrun]
 subst hN
 exact h
theorem C_one (w : World) (b : Nat) (t nv : Int) (h : w.heap[b]? = some (.cells #[.int .i64 t, .int .u64 nv] 26 (0, 0))) : Kd.C k26 w (some ⟨b, 0, none⟩) 1 [⟨t, nv⟩] := ⟨rfl, by decide, fun _ => ⟨_, rfl, fun j p hj => by
 cases j with
 | zero =>
  obtain rfl : (⟨t, nv⟩ : S26) = p := by simpa using hj
  refine ⟨[.int .i64 t, .int .u64 nv], rfl, k26_mk w ⟨t, nv⟩, fun i u hu => ?_⟩
  rw [Nat.zero_mul, Nat.zero_add, add_plain, (row_cells h i).1, List.getElem?_toArray]
  exact hu
 | succ j => simp at hj⟩⟩
/-- The insertion, wherever the two rows and the clone were made. -/
theorem app_ins (w w5 w9 : World) (A0 : Option Addr) (s : List S47) (A3 : Option Addr) (c3 : Nat) (m : List S44) (t nv : Int) (v6 : Value) (bp bX : Nat) (hw5 : Below w.heap.size w w5) (hs : s.length ≤ 1000000)
  (F1 : Kd.R (kS (relOf w)) 47 w9 w5.heap.size (fun _ => True) v6 s) (F2 : w9.heap[bX]? = some (.cells #[.slice A3 m.length c3, .slice (some ⟨bp, 0, none⟩) 1 1] 47 (0, 0))) (F3 : w9.heap[bp]? = some (.cells #[.int .i64 t, .int .u64 nv] 26 (0, 0)))
  (F4 : Kd.R k44 44 w5 0 (fun k => k < w5.heap.size) (.slice A3 m.length c3) m) (hc3 : m.length ≤ c3) (F5 : v6.ownBlock ≠ some bX) (F6 : v6.ownBlock ≠ some bp) (F7 : Below w5.heap.size w5 w9) :
  Calls Tryz.prog 21 #[v6, .int .i64 (lessN s m), .slice (some ⟨bX, 0, none⟩) 1 1] w9 fun e w' => ∃ A c, e = .returned (.slice A (putN s m t nv).length c) ∧ (putN s m t nv).length ≤ c ∧ Kd.C k47 w' A (putN s m t nv).length (putN s m t nv) ∧ Below w.heap.size w w' := by
 refine (insert_St (relPlus w (newS m t nv) (.slice A3 m.length c3) (.slice (some ⟨bp, 0, none⟩) 1 1) rfl rfl) w5 w9 w5.heap.size F7 F7.size v6 s (kS_imp F1 (fun _ _ h => .inl h)) (newS m t nv) [.slice A3 m.length c3, .slice (some ⟨bp, 0, none⟩) 1 1] (.inr ⟨rfl, rfl⟩) bX F2 F5 (lessN s m) (less_le s m) hs).mono ?_
 rintro e w' ⟨v', rfl, hR, hB, hG⟩
 have hbw : Below w.heap.size w w' := below_then hw5 hw5.size hB
 have hbp : w'.heap[bp]? = some (.cells #[.int .i64 t, .int .u64 nv] 26 (0, 0)) := (hG.block bp (Array.getElem?_eq_some_iff.1 F3).1 (Ne.symm F6)).trans F3
 have hm9 := Kd.R_below F4 F7
 have hm10 := Kd.R_grown hm9 hG (fun k hk e => by have := Kd.R_own F1; obtain ⟨inner, ho⟩ := this; have := own_base ho k e.symm; omega)
 obtain ⟨Am, cm, em, _, hCm⟩ := Kd.R_reads hm10
 injection em with e1 _ _
 subst e1
 obtain ⟨A, c, rfl, hc, hC⟩ := kS_reads hR (fun x cs h => by
  rcases h with h | ⟨rfl, rfl⟩
  ·exact k47.K_below hbw h
  ·exact k47_mk w' (newS m t nv) hc3 hCm (Nat.le_refl _) (C_one w' bp t nv hbp))
 exact ⟨A, c, rfl, hc, hC, hbw⟩
set_option maxHeartbeats 8000000 in
set_option maxRecDepth 100000 in
theorem append_new (hL : LaidAll w) (hr0 : Kd.C k47 w A0 s.length s) (hc0 : s.length ≤ c0) (hr1 : Kd.C k44 w A1 l.length l) (hc1 : l.length ≤ c1) (ho : okS s) (hl : smallL l) (hr : RightP s) (m : List S44) (hm : makeV (sortL l) = (m, none)) (hm0 : 0 < m.length) (ht : TimP t) (hfv : findV s m = (((lessN s m : Nat) : Int), false)) :
  Calls Tryz.prog 8 #[.slice A0 s.length c0, .slice A1 l.length c1, .agg #[.int .i64 t, .int .u64 v]] w (AppPost w (putN s m t (normI v), none)) := by
 have hRt := rightS_some s ho
 rw [decide_eq_true hr] at hRt
 obtain ⟨w0, hw0⟩ : ∃ w0, w0 = w.alloc (.cells #[.int .i64 t, .int .u64 v] 26) := ⟨_, rfl⟩
 have hbw0 : Below w.heap.size w w0 := by rw [hw0]; exact below_alloc (Below.refl _ _) _
 have hP0 : w0.cell? ⟨w.heap.size, 0, none⟩ = some (.int .i64 t) := by rw [hw0]; go_simp
 have hP1 : w0.cell? ⟨w.heap.size, 1, none⟩ = some (.int .u64 v) := by rw [hw0]; go_simp
 have hP2 : w0.frozen? ⟨w.heap.size, 1, none⟩ = false := by rw [hw0]; go_simp
 have hmlen : m.length ≤ 1000 := by
  have h1 := madeLen (sortL l)
  rw [hm, (sortL_perm l).length_eq] at h1
  have h2 := hl.1
  exact Nat.le_trans h1 h2
 have HR := Aside0.mk (store_Right.calls (s.length + 1000003) A0 c0 s _ w0 ⟨hL.below hbw0⟩ (Kd.C_below hr0 hbw0) hc0 hRt)
 have hMk : label_Make.f l = some (m, none) := by rw [small_dec l hl, hm]
 have HM := Aside0.mk (fun w1 (hb1 : Below w.heap.size w w1) => label_Make.calls A1 c1 l _ _ w1 (Kd.C_below hr1 hb1) hc1 ⟨hL.below hb1⟩ hMk)
 have HP0 := Aside0.mk hP0
 have HP1 := Aside0.mk hP1
 have HP2 := Aside0.mk hP2
 have HB0 := Aside0.mk hbw0
 have HW0 := Aside0.mk hw0
 have HL := Aside0.mk hL
 have HR0 := Aside0.mk hr0
 have HC0 := Aside0.mk hc0
 have HO := Aside0.mk ho
 have HS := Aside0.mk hr
 have HML := Aside0.mk hmlen
 clear hL hr0 hc0 hr1 hc1 ho hl hr hRt hMk hP0 hP1 hP2 hbw0 hm hmlen hw0
 have hmz : ((m.length : Int) == 0) = false := by rw [beq_eq_false_iff_ne]; omega
 have hmz2 : ¬ ((m.length : Int) = 0) := by omega
 have HT : Aside0 (store_timely.f t = some true) := ⟨by rw [timely_some, decide_eq_true ht]⟩
 have HFV := Aside0.mk hfv
 clear hm0 ht hfv
 go_enter Tryz.func8, Tryz.ntmps8
 go_wp2_with (first
  | (go_at_call 14; rw [← HW0.out]; refine HR.out.mono ?_; rintro e w2 ⟨rfl, hb2⟩; have HB2 := Aside0.mk (below_step HB0.out hb2); have HQ0 := Aside0.mk (pw_cell_below hb2 HP0.out); have HQ1 := Aside0.mk (pw_cell_below hb2 HP1.out); have HQ2 := Aside0.mk ((hb2.frozen (p := ⟨w.heap.size, 1, none⟩) (World.block_lt_of_cell? w0 _ HP1.out)).trans HP2.out); clear hb2)
  | (go_at_call 18; refine (HM.out _ HB2.out).mono ?_; rintro e w3 ⟨v3, rfl, ho3, hb3⟩; obtain ⟨A3, c3, rfl, hc3, hC3⟩ := Kd.R_reads ho3; have HB3 := Aside0.mk (below_step HB2.out hb3); have h30 := pw_cell_below hb3 HQ0.out; have h31 := pw_cell_below hb3 HQ1.out; have h32 := (hb3.frozen (p := ⟨w.heap.size, 1, none⟩) (World.block_lt_of_cell? w2 _ HQ1.out)).trans HQ2.out; have HLT := Aside0.mk (Nat.lt_of_lt_of_le (World.block_lt_of_cell? w2 _ HQ0.out) (Nat.le_refl _)); have HO3 := Aside0.mk ho3; have HC3 := Aside0.mk hc3; clear hb3 ho3 hc3 hC3)
  | (go_at_call 19; refine (store_timely.calls t true _ HT.out).mono ?_; rintro e w4 ⟨rfl, n4, rfl⟩)
  | (go_at_call 20; refine (norm_any _ _).mono ?_; rintro e w4 ⟨rfl, rfl⟩)
  | (go_at_call 10; obtain ⟨w4, hw4⟩ : ∃ w4, w4 = (w3.setCell ⟨w.heap.size, 1, none⟩ (.int .u64 (normI v))).drewN n4 := ⟨_, rfl⟩; rw [← hw4]; have F4 := app_at4 w w2 w3 w4 w.heap.size n4 A3 c3 m t (normI v) (Nat.le_refl _) HB3.out HLT.out h30 (by exact h31) hw4 HO3.out; refine (find_any A0 c0 s A3 c3 m w4 (HL.out.below F4.1) (Kd.C_below HR0.out F4.1) HC0.out F4.2.2.2.1 HC3.out HO.out (by have := HML.out; omega)).mono ?_; rw [HFV.out]; rintro e w5 ⟨rfl, hb5'⟩; have HMR := Aside0.mk (Kd.R_mono (Kd.R_bound (Kd.R_below F4.2.2.2.2 hb5')) (ok' := fun k => k < w5.heap.size) (fun k hk => hk.2.2.1)); have HB5w := Aside0.mk (below_then F4.1 F4.1.size hb5'); have h50 := pw_cell_below hb5' F4.2.1; have h51 := pw_cell_below hb5' F4.2.2.1; have HM5 := Aside0.mk (Kd.C_below F4.2.2.2.1 hb5'); clear hb5' F4 h30 h31 h32))
 refine start_ (n := 11) (S := fun w' => w'.cell? ⟨w.heap.size, 0, none⟩ = some (.int .i64 t) ∧ w'.cell? ⟨w.heap.size, 1, none⟩ = some (.int .u64 (normI v))) (ds := [8]) (bz 11 0) (by kernel_rfl) rfl rfl ⟨h50, h51⟩ (fun hHeld => ?_)
 refine pq 0 49 (bz 11 1) (by kernel_rfl) ?_
 refine pq 2 51 (bz 11 5) (by kernel_rfl) ?_
 refine pq 3 52 (bz 11 13) (by kernel_rfl) ?_
 refine tq 4 53 (bz 11 29) (by kernel_rfl) rfl rfl (by rintro w' ⟨s0, s1⟩; go_simp; with_reducible rfl) hHeld ?_
 refine two_ (i := 1) (j := 5) (Ni := (some 50)) (Nj := (some 54)) (bz 11 31) (bz 11 61) rfl rfl rfl rfl (by kernel_rfl) (by decide) (by decide) (fun K hK => ?_) (fun K hK => ?_)
 ·refine goes_ Tryz.func22 (by kernel_rfl) rfl #[.slice A0 s.length c0] (by rfl) rfl rfl (by (try simp only [List.map_toArray, List.map_cons, List.map_nil]); first | done | rfl) ?_
  refine (clone_St (relOf w) A0 c0 s (w5.drew) (kS_C HR0.out (below_drew HB5w.out)) HC0.out (by have := HO.out.1; omega)).mono ?_
  rintro e w6 ⟨v6, rfl, ho6, hb6⟩
  refine ⟨_, rfl, ?_⟩
  refine hK.out _ _ ⟨pw_cell_below hb6 (hHeld.1), pw_cell_below hb6 (hHeld.2)⟩ (fun hHeld => ?_)
  clear hK K
  refine norm_ (show Act.put _ (some 50) _ = _ by simp only [pu, s0, s1, i64_w, i32_w]; rfl) ?_
  refine one_ (i := 5) (N := (some 54)) (bz 11 63) rfl rfl (by kernel_rfl) (by decide) (fun K hK => ?_)
  refine val_step (by rfl) rfl (v := .slice (some ⟨(w6).heap.size, 0, none⟩) 1 1) (w1 := (w6).alloc (.cells #[.int .i64 t, .int .u64 (normI v)] 26)) ?_ ?_
  ·go_simp
  refine hK.out _ _ ⟨Go.Lib.cell?_alloc_some _ (hHeld.1), Go.Lib.cell?_alloc_some _ (hHeld.2)⟩ (fun hHeld => ?_)
  clear hK K
  refine norm_ (show Act.put _ (some 54) _ = _ by simp only [pu, s0, s1, i64_w, i32_w]; rfl) ?_
  refine pq 6 55 (bz 11 127) (by kernel_rfl) ?_
  refine one_ (i := 7) (N := (some 56)) (bz 11 255) rfl rfl (by kernel_rfl) (by decide) (fun K hK => ?_)
  refine val_step (by rfl) rfl (v := .slice (some ⟨(((w6).alloc (.cells #[.int .i64 t, .int .u64 (normI v)] 26))).heap.size, 0, none⟩) 1 1) (w1 := (((w6).alloc (.cells #[.int .i64 t, .int .u64 (normI v)] 26))).alloc (.cells #[.slice A3 m.length c3, .slice (some ⟨w6.heap.size, 0, none⟩) 1 1] 47)) ?_ ?_
  ·go_simp
  refine hK.out _ _ ⟨Go.Lib.cell?_alloc_some _ (hHeld.1), Go.Lib.cell?_alloc_some _ (hHeld.2)⟩ (fun hHeld => ?_)
  clear hK K
  refine norm_ (show Act.put _ (some 56) _ = _ by simp only [pu, s0, s1, i64_w, i32_w]; rfl) ?_
  refine last_ (i := 8) (N := (some 57)) (bz 11 511) rfl rfl (by kernel_rfl) (by decide) (fun K hK => ?_)
  refine goes_ Tryz.func21 (by kernel_rfl) rfl #[v6, .int .i64 (lessN s m), .slice (some ⟨(w6.alloc (.cells #[.int .i64 t, .int .u64 (normI v)] 26)).heap.size, 0, none⟩) 1 1] (by rfl) rfl rfl (by (try simp only [List.map_toArray, List.map_cons, List.map_nil]); first | done | rfl) ?_
  refine (app_ins w w5 _ A0 s A3 c3 m t (normI v) v6 (w6.heap.size) ((w6.alloc (.cells #[.int .i64 t, .int .u64 (normI v)] 26)).heap.size) HB5w.out (by have := HO.out.1; exact this) (Kd.R_lower (Kd.R_alloc (Kd.R_alloc ho6 _) _) (by show w5.heap.size ≤ w5.drew.heap.size; exact Nat.le_refl _)) (heap_alloc_new (w6.alloc (.cells #[.int .i64 t, .int .u64 (normI v)] 26)) _) ((heap_alloc_old _ _ (by simp)).trans (heap_alloc_new w6 _)) HMR.out HC3.out (fun e => by obtain ⟨inner, ho⟩ := Kd.R_own ho6; have := own_lt ho _ e; have hz : (w6.alloc (.cells #[.int .i64 t, .int .u64 (normI v)] 26)).heap.size = w6.heap.size + 1 := (by simp); omega) (fun e => by obtain ⟨inner, ho⟩ := Kd.R_own ho6; have := own_lt ho _ e; omega) (below_alloc (below_alloc (below_step (below_drew (Below.refl _ _)) hb6) _) _)).mono ?_
  rintro e w10 ⟨A10, c10, rfl, hc10, hC10, hb10⟩
  refine ⟨_, rfl, ?_⟩
  refine hK.out _ _ ?_
  clear hK K
  refine norm_ (show Act.put _ (some 57) _ = _ by simp only [pu, s0, s1, i64_w, i32_w]; rfl) ?_
  refine pq 9 6 (bz 11 1023) (by kernel_rfl) ?_
  refine pq 10 7 (bz 11 2047) (by kernel_rfl) ?_
  refine done_ (by kernel_rfl) ?_
  go_wp2
  go_ret2
  exact ⟨A10, c10, rfl, hc10, hC10, hb10⟩
 ·refine val_step (by rfl) rfl (v := .slice (some ⟨(w5.drew).heap.size, 0, none⟩) 1 1) (w1 := (w5.drew).alloc (.cells #[.int .i64 t, .int .u64 (normI v)] 26)) ?_ ?_
  ·go_simp
  refine hK.out _ _ ⟨Go.Lib.cell?_alloc_some _ (hHeld.1), Go.Lib.cell?_alloc_some _ (hHeld.2)⟩ (fun hHeld => ?_)
  clear hK K
  refine norm_ (show Act.put _ (some 54) _ = _ by simp only [pu, s0, s1, i64_w, i32_w]; rfl) ?_
  refine pq 6 55 (bz 11 125) (by kernel_rfl) ?_
  refine two_ (i := 1) (j := 7) (Ni := (some 50)) (Nj := (some 56)) (bz 11 127) (bz 11 253) rfl rfl rfl rfl (by kernel_rfl) (by decide) (by decide) (fun K hK => ?_) (fun K hK => ?_)
  ·refine goes_ Tryz.func22 (by kernel_rfl) rfl #[.slice A0 s.length c0] (by rfl) rfl rfl (by (try simp only [List.map_toArray, List.map_cons, List.map_nil]); first | done | rfl) ?_
   refine (clone_St (relOf w) A0 c0 s (((w5.drew).alloc (.cells #[.int .i64 t, .int .u64 (normI v)] 26))) (kS_C HR0.out (below_step HB5w.out (below_alloc (below_drew (Below.refl w5.heap.size w5)) _))) HC0.out (by have := HO.out.1; omega)).mono ?_
   rintro e w6 ⟨v6, rfl, ho6, hb6⟩
   refine ⟨_, rfl, ?_⟩
   refine hK.out _ _ ⟨pw_cell_below hb6 (hHeld.1), pw_cell_below hb6 (hHeld.2)⟩ (fun hHeld => ?_)
   clear hK K
   refine norm_ (show Act.put _ (some 50) _ = _ by simp only [pu, s0, s1, i64_w, i32_w]; rfl) ?_
   refine one_ (i := 7) (N := (some 56)) (bz 11 255) rfl rfl (by kernel_rfl) (by decide) (fun K hK => ?_)
   refine val_step (by rfl) rfl (v := .slice (some ⟨(w6).heap.size, 0, none⟩) 1 1) (w1 := (w6).alloc (.cells #[.slice A3 m.length c3, .slice (some ⟨w5.heap.size, 0, none⟩) 1 1] 47)) ?_ ?_
   ·go_simp
   refine hK.out _ _ ⟨Go.Lib.cell?_alloc_some _ (hHeld.1), Go.Lib.cell?_alloc_some _ (hHeld.2)⟩ (fun hHeld => ?_)
   clear hK K
   refine norm_ (show Act.put _ (some 56) _ = _ by simp only [pu, s0, s1, i64_w, i32_w]; rfl) ?_
   refine last_ (i := 8) (N := (some 57)) (bz 11 511) rfl rfl (by kernel_rfl) (by decide) (fun K hK => ?_)
   refine goes_ Tryz.func21 (by kernel_rfl) rfl #[v6, .int .i64 (lessN s m), .slice (some ⟨w6.heap.size, 0, none⟩) 1 1] (by rfl) rfl rfl (by (try simp only [List.map_toArray, List.map_cons, List.map_nil]); first | done | rfl) ?_
   refine (app_ins w w5 _ A0 s A3 c3 m t (normI v) v6 (w5.heap.size) (w6.heap.size) HB5w.out (by have := HO.out.1; exact this) (Kd.R_lower (Kd.R_alloc ho6 _) (by simp)) (heap_alloc_new w6 _) ((heap_alloc_old _ _ (by have := hb6.size; simp at this; omega)).trans ((hb6.block _ (by simp)).trans (heap_alloc_new w5.drew _))) HMR.out HC3.out (fun e => by obtain ⟨inner, ho⟩ := Kd.R_own ho6; have := own_lt ho _ e; omega) (fun e => by obtain ⟨inner, ho⟩ := Kd.R_own ho6; have := own_base ho _ e; simp at this; omega) (below_alloc (below_step (below_alloc (below_drew (Below.refl w5.heap.size w5)) _) hb6) _)).mono ?_
   rintro e w10 ⟨A10, c10, rfl, hc10, hC10, hb10⟩
   refine ⟨_, rfl, ?_⟩
   refine hK.out _ _ ?_
   clear hK K
   refine norm_ (show Act.put _ (some 57) _ = _ by simp only [pu, s0, s1, i64_w, i32_w]; rfl) ?_
   refine pq 9 6 (bz 11 1023) (by kernel_rfl) ?_
   refine pq 10 7 (bz 11 2047) (by kernel_rfl) ?_
   refine done_ (by kernel_rfl) ?_
   go_wp2
   go_ret2
   exact ⟨A10, c10, rfl, hc10, hC10, hb10⟩
  ·refine val_step (by rfl) rfl (v := .slice (some ⟨(((w5.drew).alloc (.cells #[.int .i64 t, .int .u64 (normI v)] 26))).heap.size, 0, none⟩) 1 1) (w1 := (((w5.drew).alloc (.cells #[.int .i64 t, .int .u64 (normI v)] 26))).alloc (.cells #[.slice A3 m.length c3, .slice (some ⟨w5.heap.size, 0, none⟩) 1 1] 47)) ?_ ?_
   ·go_simp
   refine hK.out _ _ ⟨Go.Lib.cell?_alloc_some _ (hHeld.1), Go.Lib.cell?_alloc_some _ (hHeld.2)⟩ (fun hHeld => ?_)
   clear hK K
   refine norm_ (show Act.put _ (some 56) _ = _ by simp only [pu, s0, s1, i64_w, i32_w]; rfl) ?_
   refine one_ (i := 1) (N := (some 50)) (bz 11 255) rfl rfl (by kernel_rfl) (by decide) (fun K hK => ?_)
   refine goes_ Tryz.func22 (by kernel_rfl) rfl #[.slice A0 s.length c0] (by rfl) rfl rfl (by (try simp only [List.map_toArray, List.map_cons, List.map_nil]); first | done | rfl) ?_
   refine (clone_St (relOf w) A0 c0 s (((((w5.drew).alloc (.cells #[.int .i64 t, .int .u64 (normI v)] 26))).alloc (.cells #[.slice A3 m.length c3, .slice (some ⟨w5.heap.size, 0, none⟩) 1 1] 47))) (kS_C HR0.out (below_step HB5w.out (below_alloc (below_alloc (below_drew (Below.refl w5.heap.size w5)) _) _))) HC0.out (by have := HO.out.1; omega)).mono ?_
   rintro e w6 ⟨v6, rfl, ho6, hb6⟩
   refine ⟨_, rfl, ?_⟩
   refine hK.out _ _ ⟨pw_cell_below hb6 (hHeld.1), pw_cell_below hb6 (hHeld.2)⟩ (fun hHeld => ?_)
   clear hK K
   refine norm_ (show Act.put _ (some 50) _ = _ by simp only [pu, s0, s1, i64_w, i32_w]; rfl) ?_
   refine last_ (i := 8) (N := (some 57)) (bz 11 511) rfl rfl (by kernel_rfl) (by decide) (fun K hK => ?_)
   refine goes_ Tryz.func21 (by kernel_rfl) rfl #[v6, .int .i64 (lessN s m), .slice (some ⟨(w5.drew.alloc (.cells #[.int .i64 t, .int .u64 (normI v)] 26)).heap.size, 0, none⟩) 1 1] (by rfl) rfl rfl (by (try simp only [List.map_toArray, List.map_cons, List.map_nil]); first | done | rfl) ?_
   refine (app_ins w w5 _ A0 s A3 c3 m t (normI v) v6 (w5.heap.size) ((w5.drew.alloc (.cells #[.int .i64 t, .int .u64 (normI v)] 26)).heap.size) HB5w.out (by have := HO.out.1; exact this) (Kd.R_lower ho6 (by simp; omega)) ((hb6.block _ (by simp)).trans (heap_alloc_new (w5.drew.alloc (.cells #[.int .i64 t, .int .u64 (normI v)] 26)) _)) ((hb6.block _ (by simp; omega)).trans ((heap_alloc_old _ _ (by simp)).trans (heap_alloc_new w5.drew _))) HMR.out HC3.out (fun e => by obtain ⟨inner, ho⟩ := Kd.R_own ho6; have := own_base ho _ e; simp at this; omega) (fun e => by obtain ⟨inner, ho⟩ := Kd.R_own ho6; have := own_base ho _ e; simp at this; omega) (below_step (below_alloc (below_alloc (below_drew (Below.refl w5.heap.size w5)) _) _) hb6)).mono ?_
   rintro e w10 ⟨A10, c10, rfl, hc10, hC10, hb10⟩
   refine ⟨_, rfl, ?_⟩
   refine hK.out _ _ ?_
   clear hK K
   refine norm_ (show Act.put _ (some 57) _ = _ by simp only [pu, s0, s1, i64_w, i32_w]; rfl) ?_
   refine pq 9 6 (bz 11 1023) (by kernel_rfl) ?_
   refine pq 10 7 (bz 11 2047) (by kernel_rfl) ?_
   refine done_ (by kernel_rfl) ?_
   go_wp2
   go_ret2
   exact ⟨A10, c10, rfl, hc10, hC10, hb10⟩
end
end Go.Proofs.YtfbockgjhbfidaaGreatDoor.Pr
