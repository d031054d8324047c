/- Texts of this session, cut down to what one claim needs and joined: StApp3. -/
import Derived.Test.YtfbockgjhbfidaaGreatDoorQStApp2
import Derived.ArgAppend
set_option linter.unusedVariables false
set_option linter.unusedSimpArgs false
namespace Go.Proofs.YtfbockgjhbfidaaGreatDoor.Pr
open Go.RowKit Go.Proofs.YtfbockgjhbfidaaGreatDoorW.PrintWords Go.Proofs.YtfbockgjhbfidaaGreatDoorW.PrintLast Go.Proofs.YtfbockgjhbfidaaGreatDoorW.PrintMore
attribute [local go_sem] errW_none errW_some

theorem step_append_run {P : Program} {ops : Array Oper} {o : Oper} {a : Act} {w : World} {K : Act → World → Prop} {Q : Exit → Act → World → Prop} {E : Prop}
  (hg : o.guard = none) (d x : Operand) (dT sT : TypeId) (hop : o.op = Op.call { callee := Callee.builtin Builtin.append, args := #[d, x], argTypes := #[dT, sT] })
  (v u : Value) (hd : a.eval d = v) (hx : a.eval x = u) {v' : Value} {w' : World} (hr : (Builtin.append_ #[dT, sT] o.type #[v, u]).run P w = .ok v' w') (hK : K (a.put o.dst v') w') :
  if Region.wanted o (yielded ops a.tmps) = true then Oper.wp P o a w K Q else E := by
 have hw : Region.wanted o (yielded ops a.tmps) = true := by simp [Region.wanted, hg]
 rw [if_pos hw]
 unfold Oper.wp execOp
 simp only [hop, resolve, invoke, builtin, Sem.run_bind, Sem.run_pure, Result.andThen_ok, List.map_toArray, List.map_cons, List.map_nil, hd, hx, hr]
 exact hK
theorem more_cell {w8 : World} {g cap : Nat} {cur : Array Value} {s : List S47} {i : Nat} (hh8 : w8.heap[g]? = some (.cells cur 47 (0, 0))) (hi : i < s.length) (hcs : cur.size = cap * 2) (hnc : s.length ≤ cap) :
  ∃ u, w8.cell? ⟨g, i * 2 + 1, none⟩ = some u ∧ w8.frozen? ⟨g, i * 2 + 1, none⟩ = false := by
 have h := row_cells hh8 (i * 2 + 1)
 have hlt : i * 2 + 1 < cur.size := by omega
 exact ⟨cur[i * 2 + 1], h.1.trans (Array.getElem?_eq_getElem hlt), h.2⟩
/-- append to the found series' points: a new row. -/
theorem more_app (w w7 : World) (ae : Addr) (pts : List S26) (n : Nat) (hn : pts.length = n + 1) (hb : pts.length ≤ 1000000) (hC : Kd.C k26 w (some ae) (n + 1) pts) (hb7 : Below w.heap.size w w7) (bp : Nat) (t nv : Int) (h0 : w7.heap[bp]? = some (.cells #[.int .i64 t, .int .u64 nv] 26 (0, 0))) (ty : TypeId) :
  ∃ A7 n7 c7 w8, (Builtin.append_ #[45, 45] ty #[.slice (some ae) (n + 1) (n + 1), .slice (some ⟨bp, 0, none⟩) 1 1]).run Tryz.prog w7 = .ok (.slice A7 n7 c7) w8 ∧ Kd.R k26 26 w8 w7.heap.size (fun _ => True) (.slice A7 n7 c7) (pts ++ [⟨t, nv⟩]) ∧ w7.grownBy w8 none := by
 rw [← hn] at hC
 obtain ⟨inner, hr, hc⟩ := ReadsRow.inner_ hC
 obtain ⟨i0, hi, hzz⟩ := Option.map_eq_some_iff.1 infoPt
 simp only [Prod.mk.injEq] at hzz
 obtain ⟨hz0, hz1, hz2⟩ := hzz
 obtain ⟨v7, w8, hrun, hown, hg⟩ := run_append_arg_grows (P := Tryz.prog) w7 45 ty 26 i0 _ 2 16 Tryz.underlying45 hi hz0 hz1 hz2 rfl (by decide) ae (n + 1) (n + 1) inner (by rw [hr.1, hn]; rfl) (fun j u hu => pw_cell_below hb7 (hc j u hu)) ⟨bp, 0, none⟩ 1 1 [.int .i64 t, .int .u64 nv] rfl
  (fun j u hu => by rw [add_plain, (row_cells h0 j).1, List.getElem?_toArray]; exact hu) (by omega) (by simp only [maxLen]; omega) (by omega)
 have hR := more_row (w := w) (w8 := w8) (pts := pts) t nv hr (by rw [hn]; exact hown)
 obtain ⟨A, c, rfl, _⟩ := Kd.R_reads hR
 exact ⟨A, _, c, w8, hrun, hR, hg⟩

section
variable (A0 : Option Addr) (c0 : Nat) (s : List S47) (A1 : Option Addr) (c1 : Nat) (l : List S44) (t v : Int) (w : World)
set_option maxHeartbeats 8000000 in
set_option maxRecDepth 100000 in
theorem append_more (hL : LaidAll w) (hr0 : Kd.C k47 w A0 s.length s) (hc0 : s.length ≤ c0) (hr1 : Kd.C k44 w A1 l.length l) (hc1 : l.length ≤ c1) (ho : okS s) (hl : smallL l) (hr : RightP s) (m : List S44) (hm : makeV (sortL l) = (m, none)) (i : Nat) (hi : i < s.length) (hm0 : 0 < m.length) (ht : TimP t) (hfv : findV s m = ((i : Int), true)) (hq : ¬ (rd_T26 (rd_T47 s (i : Int)).f1 (((rd_T47 s (i : Int)).f1.length : Int) - 1)).f0 ≥ t) :
  Calls Tryz.prog 8 #[.slice A0 s.length c0, .slice A1 l.length c1, .agg #[.int .i64 t, .int .u64 v]] w (AppPost w (putM s i t (normI v), none)) := by
 have hlong : 0 < (rd_T47 s (i : Int)).f1.length := by
  rw [rdX_at s i hi]
  exact (hr.1 _ (List.getElem_mem hi)).2.2.1
 obtain ⟨ad, B0, d0, B1, d1, hA, hx0, hx1, hd0, hi0, hd1, hi1⟩ := at_T47 hr0 (i : Int) (by omega) (by omega)
 obtain ⟨ae, hB, hp0, hp1⟩ := at_T26 hi1 (((rd_T47 s (i : Int)).f1.length : Int) - 1) (by omega) (by omega)
 subst hA hB
 rw [Int.toNat_natCast] at hx0 hx1
 have hlen : (rd_T47 s (i : Int)).f1.length ≤ 1000000 := by
  rw [rdX_at s i hi]
  exact (ho.2 _ (List.getElem_mem hi)).2
 generalize hX : rd_T47 s (i : Int) = x at *
 generalize hQ : rd_T26 x.f1 ((x.f1.length : Int) - 1) = q at *
 obtain ⟨n, hn⟩ : ∃ n, x.f1.length = n + 1 := ⟨x.f1.length - 1, by omega⟩
 rw [hn] at hx1 hp0 hp1 hd1 hi1
 rw [show (((n + 1 : Nat) : Int) - 1).toNat = n by omega] at hp0 hp1
 have HX0 := Aside0.mk hx0
 have HX1 := Aside0.mk hx1
 have HQ0P := Aside0.mk hp0
 have HI1 := Aside0.mk hi1
 have HD1 := Aside0.mk hd1
 clear hx0 hx1 hp0 hp1 hi0 hi1 hd0 hd1 hlong
 have hRt := rightS_some s ho
 rw [decide_eq_true hr] at hRt
 obtain ⟨w0, hw0⟩ : ∃ w0, w0 = w.alloc (.cells #[.int .i64 t, .int .u64 v] 26) := ⟨_, rfl⟩
 have hbw0 : Below w.heap.size w w0 := by rw [hw0]; exact below_alloc (Below.refl _ _) _
 have hP0 : w0.cell? ⟨w.heap.size, 0, none⟩ = some (.int .i64 t) := by rw [hw0]; go_simp
 have hP1 : w0.cell? ⟨w.heap.size, 1, none⟩ = some (.int .u64 v) := by rw [hw0]; go_simp
 have hP2 : w0.frozen? ⟨w.heap.size, 1, none⟩ = false := by rw [hw0]; go_simp
 have hmlen : m.length ≤ 1000 := by
  have h1 := madeLen (sortL l)
  rw [hm, (sortL_perm l).length_eq] at h1
  have h2 := hl.1
  exact Nat.le_trans h1 h2
 have HR := Aside0.mk (store_Right.calls (s.length + 1000003) (some ad) c0 s _ w0 ⟨hL.below hbw0⟩ (Kd.C_below hr0 hbw0) hc0 hRt)
 have hMk : label_Make.f l = some (m, none) := by rw [small_dec l hl, hm]
 have HM := Aside0.mk (fun w1 (hb1 : Below w.heap.size w w1) => label_Make.calls A1 c1 l _ _ w1 (Kd.C_below hr1 hb1) hc1 ⟨hL.below hb1⟩ hMk)
 have HP0 := Aside0.mk hP0
 have HP1 := Aside0.mk hP1
 have HP2 := Aside0.mk hP2
 have HB0 := Aside0.mk hbw0
 have HW0 := Aside0.mk hw0
 have HL := Aside0.mk hL
 have HR0 := Aside0.mk hr0
 have HC0 := Aside0.mk hc0
 have HO := Aside0.mk ho
 have HS := Aside0.mk hr
 have HML := Aside0.mk hmlen
 clear hL hr0 hc0 hr1 hc1 ho hl hr hRt hMk hP0 hP1 hP2 hbw0 hm hmlen hw0
 have hmz : ((m.length : Int) == 0) = false := by rw [beq_eq_false_iff_ne]; omega
 have hmz2 : ¬ ((m.length : Int) = 0) := by omega
 have HT : Aside0 (store_timely.f t = some true) := ⟨by rw [timely_some, decide_eq_true ht]⟩
 have HFV := Aside0.mk hfv
 clear hm0 ht hfv
 have p1 : (0 : Int) ≤ (i : Int) := by omega
 have p2 : (i : Int) < (s.length : Int) := by omega
 have p3 : wrap64 (n : Int) = (n : Int) := by unfold wrap64; omega
 have p4 : (0 : Int) ≤ (n : Int) := by omega
 have p5 : (n : Int) < (n : Int) + 1 := by omega
 have p6 : (n : Int) + 1 ≤ (d1 : Int) := by have := HD1.out; omega
 have p7 : (0 : Int) ≤ (n : Int) + 1 := by omega
 go_enter Tryz.func8, Tryz.ntmps8
 go_wp2_with (first
  | (go_at_call 14; rw [← HW0.out]; refine HR.out.mono ?_; rintro e w2 ⟨rfl, hb2⟩; have HB2 := Aside0.mk (below_step HB0.out hb2); have HQ0 := Aside0.mk (pw_cell_below hb2 HP0.out); have HQ1 := Aside0.mk (pw_cell_below hb2 HP1.out); have HQ2 := Aside0.mk ((hb2.frozen (p := ⟨w.heap.size, 1, none⟩) (World.block_lt_of_cell? w0 _ HP1.out)).trans HP2.out); clear hb2)
  | (go_at_call 18; refine (HM.out _ HB2.out).mono ?_; rintro e w3 ⟨v3, rfl, ho3, hb3⟩; obtain ⟨A3, c3, rfl, hc3, hC3⟩ := Kd.R_reads ho3; have HB3 := Aside0.mk (below_step HB2.out hb3); have h30 := pw_cell_below hb3 HQ0.out; have h31 := pw_cell_below hb3 HQ1.out; have h32 := (hb3.frozen (p := ⟨w.heap.size, 1, none⟩) (World.block_lt_of_cell? w2 _ HQ1.out)).trans HQ2.out; have HLT := Aside0.mk (Nat.lt_of_lt_of_le (World.block_lt_of_cell? w2 _ HQ0.out) (Nat.le_refl _)); have HO3 := Aside0.mk ho3; have HC3 := Aside0.mk hc3; clear hb3 ho3 hc3 hC3)
  | (go_at_call 19; refine (store_timely.calls t true _ HT.out).mono ?_; rintro e w4 ⟨rfl, n4, rfl⟩)
  | (go_at_call 20; refine (norm_any _ _).mono ?_; rintro e w4 ⟨rfl, rfl⟩)
  | (go_at_call 10; obtain ⟨w4, hw4⟩ : ∃ w4, w4 = (w3.setCell ⟨w.heap.size, 1, none⟩ (.int .u64 (normI v))).drewN n4 := ⟨_, rfl⟩; rw [← hw4]; have F4 := app_at4 w w2 w3 w4 w.heap.size n4 A3 c3 m t (normI v) (Nat.le_refl _) HB3.out HLT.out h30 (by exact h31) hw4 HO3.out; refine (find_any (some ad) c0 s A3 c3 m w4 (HL.out.below F4.1) (Kd.C_below HR0.out F4.1) HC0.out F4.2.2.2.1 HC3.out HO.out (by have := HML.out; omega)).mono ?_; rw [HFV.out]; rintro e w5 ⟨rfl, hb5'⟩; have HMR := Aside0.mk (Kd.R_mono (Kd.R_bound (Kd.R_below F4.2.2.2.2 hb5')) (ok' := fun k => k < w5.heap.size) (fun k hk => hk.2.2.1)); have HB5w := Aside0.mk (below_then F4.1 F4.1.size hb5'); have h50 := pw_cell_below hb5' F4.2.1; have h51 := pw_cell_below hb5' F4.2.2.1; have HM5 := Aside0.mk (Kd.C_below F4.2.2.2.1 hb5'); have h5s := pw_cell_below HB5w.out HX1.out; have h5p := pw_cell_below HB5w.out HQ0P.out; clear hb5' F4 h30 h31 h32))
 refine start_ (n := 10) (S := fun w' => w'.cell? (ae.add (n * 2)) = some (.int .i64 q.f0) ∧ w'.cell? ⟨w.heap.size, 0, none⟩ = some (.int .i64 t)) (ds := []) (bz 10 0) (by kernel_rfl) rfl rfl ⟨h5p, h50⟩ (fun hHeld => ?_)
 refine pq 0 63 (bz 10 1) (by kernel_rfl) ?_
 refine pq 1 64 (bz 10 3) (by kernel_rfl) ?_
 refine pq 2 65 (bz 10 7) (by kernel_rfl) ?_
 refine pq 3 66 (bz 10 15) (by kernel_rfl) ?_
 refine pq 4 67 (bz 10 31) (by kernel_rfl) ?_
 refine pq 5 68 (bz 10 63) (by kernel_rfl) ?_
 refine pq 7 70 (bz 10 191) (by kernel_rfl) ?_
 refine tq 6 69 (bz 10 255) (by kernel_rfl) rfl rfl (by rintro w' ⟨s0, s1⟩; go_simp; with_reducible rfl) hHeld ?_
 refine tq 8 71 (bz 10 511) (by kernel_rfl) rfl rfl (by rintro w' ⟨s0, s1⟩; go_simp; with_reducible rfl) hHeld ?_
 refine pq 9 72 (bz 10 1023) (by kernel_rfl) ?_
 refine done_ (by kernel_rfl) ?_
 go_wp2_with (go_at_call 22; refine (clone_St (relOf w) (some ad) c0 s _ (kS_C HR0.out (by repeat (first | exact HB5w.out | apply below_alloc | apply pw_below_drewN | apply below_drew1 | apply below_drew))) HC0.out (by have := HO.out.1; omega)).mono ?_; rintro e w6 ⟨v6, rfl, ho6, hb6⟩; obtain ⟨g, cap, cur, inner, rfl, hBg, hh6, hnc, hcs, hti, hri⟩ := own_form hi ho6; have h60 := pw_cell_below hb6 (show w5.drew.cell? _ = _ from h50); have h61 := pw_cell_below hb6 (show w5.drew.cell? _ = _ from h51); have HB6w := Aside0.mk (below_step (below_drew HB5w.out) hb6))
 refine start_ (n := 14) (S := fun w' => w'.cell? ⟨w.heap.size, 0, none⟩ = some (.int .i64 t) ∧ w'.cell? ⟨w.heap.size, 1, none⟩ = some (.int .u64 (normI v))) (ds := [13]) (bz 14 0) (by kernel_rfl) rfl rfl ⟨h60, h61⟩ (fun hHeld => ?_)
 refine pq 0 76 (bz 14 1) (by kernel_rfl) ?_
 refine pq 1 77 (bz 14 3) (by kernel_rfl) ?_
 refine pq 2 78 (bz 14 7) (by kernel_rfl) ?_
 refine pq 3 79 (bz 14 15) (by kernel_rfl) ?_
 refine pq 4 80 (bz 14 31) (by kernel_rfl) ?_
 refine pq 5 81 (bz 14 63) (by kernel_rfl) ?_
 refine pq 6 82 (bz 14 127) (by kernel_rfl) ?_
 refine pq 7 83 (bz 14 255) (by kernel_rfl) ?_
 refine tq 8 84 (bz 14 511) (by kernel_rfl) rfl rfl (by rintro w' ⟨s0, s1⟩; go_simp; with_reducible rfl) hHeld ?_
 refine one_ (i := 9) (N := (some 85)) (bz 14 1023) rfl rfl (by kernel_rfl) (by decide) (fun K hK => ?_)
 refine val_step (by rfl) rfl (v := .slice (some ⟨(w6.drew).heap.size, 0, none⟩) 1 1) (w1 := (w6.drew).alloc (.cells #[.int .i64 t, .int .u64 (normI v)] 26)) ?_ ?_
 ·go_simp
 refine hK.out _ _ ⟨Go.Lib.cell?_alloc_some _ (hHeld.1), Go.Lib.cell?_alloc_some _ (hHeld.2)⟩ (fun hHeld => ?_)
 clear hK K
 refine norm_ (show Act.put _ (some 85) _ = _ by simp only [pu, s0, s1, i64_w, i32_w]; rfl) ?_
 refine one_ (i := 10) (N := (some 86)) (bz 14 2047) rfl rfl (by kernel_rfl) (by decide) (fun K hK => ?_)
 obtain ⟨A7, n7, c7, w8, hrun7, hR7, hg7⟩ := more_app w (w6.drew.alloc (.cells #[.int .i64 t, .int .u64 (normI v)] 26)) ae x.f1 n hn hlen HI1.out (below_alloc (below_drew HB6w.out) _) w6.heap.size t (normI v) (heap_alloc_new w6.drew _) 45
 refine step_append_run rfl (.tmp 83) (.tmp 85) 45 45 rfl _ _ rfl rfl hrun7 ?_
 refine hK.out _ _ ⟨(show _ = _ from (World.cell?_of_block (hg7.block _ (by have := World.block_lt_of_cell? _ _ hHeld.1; exact this) (by simp))).trans hHeld.1), (World.cell?_of_block (hg7.block _ (by have := World.block_lt_of_cell? _ _ hHeld.2; exact this) (by simp))).trans hHeld.2⟩ (fun hHeld => ?_)
 clear hK K
 refine norm_ (show Act.put _ (some 86) _ = _ by simp only [pu, s0, s1, i64_w, i32_w]; rfl) ?_
 refine pq 11 87 (bz 14 4095) (by kernel_rfl) ?_
 refine pq 12 88 (bz 14 8191) (by kernel_rfl) ?_
 have hh8 : w8.heap[g]? = some (.cells cur 47 (0, 0)) := (hg7.block g (by have := (Array.getElem?_eq_some_iff.1 hh6).1; simp; omega) (by simp)).trans ((heap_alloc_old _ _ (by have := (Array.getElem?_eq_some_iff.1 hh6).1; simpa using this)).trans hh6)
 obtain ⟨u8, hu8, hf8⟩ := more_cell hh8 hi hcs hnc
 refine last_ (i := 13) (N := none) (bz 14 16383) rfl rfl (by kernel_rfl) (by decide) (fun K hK => ?_)
 refine skip_ (w1 := ?_) (by rfl) rfl ?_ ?_
 rotate_left
 ·go_simp
  rfl
 refine hK.out _ _ ?_
 clear hK K
 refine done_ (by kernel_rfl) ?_
 go_wp2
 go_ret2
 have hb8 : Below w.heap.size w w8 := (below_alloc (below_drew HB6w.out) _).grown hg7 (by have := HB6w.out.size; simp; omega) (fun k hk => by simp at hk)
 exact ⟨some ⟨g, 0, none⟩, cap, by rw [putM_len]; rfl, by rw [putM_len]; exact hnc, more_fin w w8 g cur s i hi inner hh8 HO.out.1 hti hri t (normI v) (.slice A7 n7 c7) hb8 (by have := HB5w.out.size; simp at hBg; omega) (by rw [hX]; exact Kd.R_lower (Kd.R_mono (Kd.R_bound hR7) (fun k hk e => by have := hk.2.1; have h2 := (Array.getElem?_eq_some_iff.1 hh6).1; simp at this; omega)) (Nat.zero_le _)), hb8.setCell (by have := HB5w.out.size; simp at hBg; show w.heap.size ≤ g; omega) _⟩
end
end Go.Proofs.YtfbockgjhbfidaaGreatDoor.Pr
