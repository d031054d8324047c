/- Texts of this session, cut down to what one claim needs and joined: StApp2. -/
import Derived.Test.YtfbockgjhbfidaaGreatDoorQStApp1
import Derived.ArgAppend
set_option linter.unusedVariables false
set_option linter.unusedSimpArgs false
namespace Go.Proofs.YtfbockgjhbfidaaGreatDoor.Pr
open Go.RowKit Go.Proofs.YtfbockgjhbfidaaGreatDoorW.PrintWords Go.Proofs.YtfbockgjhbfidaaGreatDoorW.PrintLast Go.Proofs.YtfbockgjhbfidaaGreatDoorW.PrintMore
attribute [local go_sem] errW_none errW_some

section
variable (A0 : Option Addr) (c0 : Nat) (s : List S47) (A1 : Option Addr) (c1 : Nat) (l : List S44) (t v : Int) (w : World)
set_option maxHeartbeats 8000000 in
set_option maxRecDepth 100000 in
theorem append_late (hL : LaidAll w) (hr0 : Kd.C k47 w A0 s.length s) (hc0 : s.length ≤ c0) (hr1 : Kd.C k44 w A1 l.length l) (hc1 : l.length ≤ c1) (ho : okS s) (hl : smallL l) (hr : RightP s) (m : List S44) (hm : makeV (sortL l) = (m, none)) (i : Nat) (hi : i < s.length) (hm0 : 0 < m.length) (ht : TimP t) (hfv : findV s m = ((i : Int), true)) (hq : (rd_T26 (rd_T47 s (i : Int)).f1 (((rd_T47 s (i : Int)).f1.length : Int) - 1)).f0 ≥ t) :
  Calls Tryz.prog 8 #[.slice A0 s.length c0, .slice A1 l.length c1, .agg #[.int .i64 t, .int .u64 v]] w (AppPost w ([], some 3)) := by
 have hlong : 0 < (rd_T47 s (i : Int)).f1.length := by
  rw [rdX_at s i hi]
  exact (hr.1 _ (List.getElem_mem hi)).2.2.1
 obtain ⟨ad, B0, d0, B1, d1, hA, hx0, hx1, hd0, hi0, hd1, hi1⟩ := at_T47 hr0 (i : Int) (by omega) (by omega)
 obtain ⟨ae, hB, hp0, hp1⟩ := at_T26 hi1 (((rd_T47 s (i : Int)).f1.length : Int) - 1) (by omega) (by omega)
 subst hA hB
 rw [Int.toNat_natCast] at hx0 hx1
 have hlen : (rd_T47 s (i : Int)).f1.length ≤ 1000000 := by
  rw [rdX_at s i hi]
  exact (ho.2 _ (List.getElem_mem hi)).2
 generalize hX : rd_T47 s (i : Int) = x at *
 generalize hQ : rd_T26 x.f1 ((x.f1.length : Int) - 1) = q at *
 obtain ⟨n, hn⟩ : ∃ n, x.f1.length = n + 1 := ⟨x.f1.length - 1, by omega⟩
 rw [hn] at hx1 hp0 hp1 hd1 hi1
 rw [show (((n + 1 : Nat) : Int) - 1).toNat = n by omega] at hp0 hp1
 have HX0 := Aside0.mk hx0
 have HX1 := Aside0.mk hx1
 have HQ0P := Aside0.mk hp0
 have HI1 := Aside0.mk hi1
 have HD1 := Aside0.mk hd1
 clear hx0 hx1 hp0 hp1 hi0 hi1 hd0 hd1 hlong
 have hRt := rightS_some s ho
 rw [decide_eq_true hr] at hRt
 obtain ⟨w0, hw0⟩ : ∃ w0, w0 = w.alloc (.cells #[.int .i64 t, .int .u64 v] 26) := ⟨_, rfl⟩
 have hbw0 : Below w.heap.size w w0 := by rw [hw0]; exact below_alloc (Below.refl _ _) _
 have hP0 : w0.cell? ⟨w.heap.size, 0, none⟩ = some (.int .i64 t) := by rw [hw0]; go_simp
 have hP1 : w0.cell? ⟨w.heap.size, 1, none⟩ = some (.int .u64 v) := by rw [hw0]; go_simp
 have hP2 : w0.frozen? ⟨w.heap.size, 1, none⟩ = false := by rw [hw0]; go_simp
 have hmlen : m.length ≤ 1000 := by
  have h1 := madeLen (sortL l)
  rw [hm, (sortL_perm l).length_eq] at h1
  have h2 := hl.1
  exact Nat.le_trans h1 h2
 have HR := Aside0.mk (store_Right.calls (s.length + 1000003) (some ad) c0 s _ w0 ⟨hL.below hbw0⟩ (Kd.C_below hr0 hbw0) hc0 hRt)
 have hMk : label_Make.f l = some (m, none) := by rw [small_dec l hl, hm]
 have HM := Aside0.mk (fun w1 (hb1 : Below w.heap.size w w1) => label_Make.calls A1 c1 l _ _ w1 (Kd.C_below hr1 hb1) hc1 ⟨hL.below hb1⟩ hMk)
 have HP0 := Aside0.mk hP0
 have HP1 := Aside0.mk hP1
 have HP2 := Aside0.mk hP2
 have HB0 := Aside0.mk hbw0
 have HW0 := Aside0.mk hw0
 have HL := Aside0.mk hL
 have HR0 := Aside0.mk hr0
 have HC0 := Aside0.mk hc0
 have HO := Aside0.mk ho
 have HS := Aside0.mk hr
 have HML := Aside0.mk hmlen
 clear hL hr0 hc0 hr1 hc1 ho hl hr hRt hMk hP0 hP1 hP2 hbw0 hm hmlen hw0
 have hmz : ((m.length : Int) == 0) = false := by rw [beq_eq_false_iff_ne]; omega
 have hmz2 : ¬ ((m.length : Int) = 0) := by omega
 have HT : Aside0 (store_timely.f t = some true) := ⟨by rw [timely_some, decide_eq_true ht]⟩
 have HFV := Aside0.mk hfv
 clear hm0 ht hfv
 have p1 : (0 : Int) ≤ (i : Int) := by omega
 have p2 : (i : Int) < (s.length : Int) := by omega
 have p3 : wrap64 (n : Int) = (n : Int) := by unfold wrap64; omega
 have p4 : (0 : Int) ≤ (n : Int) := by omega
 have p5 : (n : Int) < (n : Int) + 1 := by omega
 go_enter Tryz.func8, Tryz.ntmps8
 go_wp2_with (first
  | (go_at_call 14; rw [← HW0.out]; refine HR.out.mono ?_; rintro e w2 ⟨rfl, hb2⟩; have HB2 := Aside0.mk (below_step HB0.out hb2); have HQ0 := Aside0.mk (pw_cell_below hb2 HP0.out); have HQ1 := Aside0.mk (pw_cell_below hb2 HP1.out); have HQ2 := Aside0.mk ((hb2.frozen (p := ⟨w.heap.size, 1, none⟩) (World.block_lt_of_cell? w0 _ HP1.out)).trans HP2.out); clear hb2)
  | (go_at_call 18; refine (HM.out _ HB2.out).mono ?_; rintro e w3 ⟨v3, rfl, ho3, hb3⟩; obtain ⟨A3, c3, rfl, hc3, hC3⟩ := Kd.R_reads ho3; have HB3 := Aside0.mk (below_step HB2.out hb3); have h30 := pw_cell_below hb3 HQ0.out; have h31 := pw_cell_below hb3 HQ1.out; have h32 := (hb3.frozen (p := ⟨w.heap.size, 1, none⟩) (World.block_lt_of_cell? w2 _ HQ1.out)).trans HQ2.out; have HLT := Aside0.mk (Nat.lt_of_lt_of_le (World.block_lt_of_cell? w2 _ HQ0.out) (Nat.le_refl _)); have HO3 := Aside0.mk ho3; have HC3 := Aside0.mk hc3; clear hb3 ho3 hc3 hC3)
  | (go_at_call 19; refine (store_timely.calls t true _ HT.out).mono ?_; rintro e w4 ⟨rfl, n4, rfl⟩)
  | (go_at_call 20; refine (norm_any _ _).mono ?_; rintro e w4 ⟨rfl, rfl⟩)
  | (go_at_call 10; obtain ⟨w4, hw4⟩ : ∃ w4, w4 = (w3.setCell ⟨w.heap.size, 1, none⟩ (.int .u64 (normI v))).drewN n4 := ⟨_, rfl⟩; rw [← hw4]; have F4 := app_at4 w w2 w3 w4 w.heap.size n4 A3 c3 m t (normI v) (Nat.le_refl _) HB3.out HLT.out h30 (by exact h31) hw4 HO3.out; refine (find_any (some ad) c0 s A3 c3 m w4 (HL.out.below F4.1) (Kd.C_below HR0.out F4.1) HC0.out F4.2.2.2.1 HC3.out HO.out (by have := HML.out; omega)).mono ?_; rw [HFV.out]; rintro e w5 ⟨rfl, hb5'⟩; have HMR := Aside0.mk (Kd.R_mono (Kd.R_bound (Kd.R_below F4.2.2.2.2 hb5')) (ok' := fun k => k < w5.heap.size) (fun k hk => hk.2.2.1)); have HB5w := Aside0.mk (below_then F4.1 F4.1.size hb5'); have h50 := pw_cell_below hb5' F4.2.1; have h51 := pw_cell_below hb5' F4.2.2.1; have HM5 := Aside0.mk (Kd.C_below F4.2.2.2.1 hb5'); have h5s := pw_cell_below HB5w.out HX1.out; have h5p := pw_cell_below HB5w.out HQ0P.out; clear hb5' F4 h30 h31 h32))
 refine start_ (n := 10) (S := fun w' => w'.cell? (ae.add (n * 2)) = some (.int .i64 q.f0) ∧ w'.cell? ⟨w.heap.size, 0, none⟩ = some (.int .i64 t)) (ds := []) (bz 10 0) (by kernel_rfl) rfl rfl ⟨h5p, h50⟩ (fun hHeld => ?_)
 refine pq 0 63 (bz 10 1) (by kernel_rfl) ?_
 refine pq 1 64 (bz 10 3) (by kernel_rfl) ?_
 refine pq 2 65 (bz 10 7) (by kernel_rfl) ?_
 refine pq 3 66 (bz 10 15) (by kernel_rfl) ?_
 refine pq 4 67 (bz 10 31) (by kernel_rfl) ?_
 refine pq 5 68 (bz 10 63) (by kernel_rfl) ?_
 refine pq 7 70 (bz 10 191) (by kernel_rfl) ?_
 refine tq 6 69 (bz 10 255) (by kernel_rfl) rfl rfl (by rintro w' ⟨s0, s1⟩; go_simp; with_reducible rfl) hHeld ?_
 refine tq 8 71 (bz 10 511) (by kernel_rfl) rfl rfl (by rintro w' ⟨s0, s1⟩; go_simp; with_reducible rfl) hHeld ?_
 refine pq 9 72 (bz 10 1023) (by kernel_rfl) ?_
 refine done_ (by kernel_rfl) ?_
 go_wp2
 go_ret2
 exact AppPost.no (by repeat (first | exact HB5w.out | apply below_alloc | apply pw_below_drewN | apply below_drew1 | apply below_drew))
theorem infoPt : (Tryz.prog.info? 26).map (fun i => (i.zero, i.size, i.bytes)) = some (some (.agg #[.int .i64 0, .int .u64 0]), 2, 16) := by kernel_rfl
theorem own_form {W : Rel} {w : World} {B : Nat} {v : Value} {s : List S47} {i : Nat} (hi : i < s.length) (h : Kd.R (kS W) 47 w B (fun _ => True) v s) :
  ∃ g cap cur inner, v = .slice (some ⟨g, 0, none⟩) s.length cap ∧ B ≤ g ∧ w.heap[g]? = some (.cells cur 47 (0, 0)) ∧ s.length ≤ cap ∧ cur.size = cap * 2 ∧ cur.toList.take (s.length * 2) = inner ∧ Reps W.R 2 s inner := by
 obtain ⟨_, inner, ⟨_, h2⟩, hr⟩ := h
 rcases h2 with ⟨_, h0⟩ | ⟨g, cap, cur, rfl, hg, hh, hnc, _, hcs, ht⟩
 ·omega
 ·exact ⟨g, cap, cur, inner, rfl, hg, hh, hnc, hcs, ht, hr⟩
theorem more_row {w w8 : World} {B : Nat} {pts : List S26} {inner : List Value} {v7 : Value} (t nv : Int) (hr : Reps (k26.K w) 2 pts inner) (hown : w8.ownsRow B 26 2 v7 (pts.length + 1) (inner ++ [.int .i64 t, .int .u64 nv])) :
  Kd.R k26 26 w8 B (fun _ => True) v7 (pts ++ [⟨t, nv⟩]) := by
 refine ⟨fun _ _ => trivial, _, ?_, Reps_app (hr.imp_ (fun p c h => ?_)) (Reps_one (k26_mkM _ _ _ ⟨t, nv⟩) rfl)⟩
 ·rw [List.length_append, List.length_singleton]; exact hown
 ·obtain rfl := k26_open h
  exact k26_mkM _ _ _ p
theorem more_fin (w w8 : World) (g : Nat) (cur : Array Value) (s : List S47) (i : Nat) (hi : i < s.length) (inner : List Value) (hh : w8.heap[g]? = some (.cells cur 47 (0, 0))) (hn : s.length ≤ 1000000) (ht : cur.toList.take (s.length * 2) = inner) (hr : Reps (relOf w).R 2 s inner) (t nv : Int) (v7 : Value) (hb8 : Below w.heap.size w w8) (hg : w.heap.size ≤ g)
  (h7 : Kd.R k26 26 w8 0 (fun k => k ≠ g) v7 ((rd_T47 s (i : Int)).f1 ++ [⟨t, nv⟩])) : Kd.C k47 (w8.setCell ⟨g, i * 2 + 1, none⟩ v7) (some ⟨g, 0, none⟩) (putM s i t nv).length (putM s i t nv) := by
 have hb9 : Below w.heap.size w (w8.setCell ⟨g, i * 2 + 1, none⟩ v7) := hb8.setCell hg _
 have h9 := heap_setCell_same w8 g (i * 2 + 1) cur _ v7 hh
 have h79 := Kd.R_far h7 (p := ⟨g, i * 2 + 1, none⟩) (fun k hk => hk) v7
 obtain ⟨Ap, cp, rfl, hcp, hCp⟩ := Kd.R_reads h79
 have hcur : ∀ (k : Nat) (u : Value), inner[k]? = some u → cur[k]? = some u := by
  intro k u hu
  rw [← ht, List.getElem?_take] at hu
  split at hu
  ·rw [Array.getElem?_toList] at hu; exact hu
  ·cases hu
 have hgd : s.getD i z47 = s[i] := by rw [List.getD_eq_getElem?_getD, List.getElem?_eq_getElem hi]; rfl
 have hrd := rdX_at s i hi
 refine ⟨rfl, by rw [putM_len]; omega, fun _ => ⟨_, rfl, fun j p hj => ?_⟩⟩
 unfold putM at hj
 rw [List.getElem?_set] at hj
 by_cases e : i = j
 ·subst e
  rw [if_pos rfl, if_pos hi, hgd] at hj
  obtain rfl := Option.some.inj hj
  have hx : k47.K w s[i] ((inner.drop (i * 2)).take 2) := hr.2 i s[i] (List.getElem?_eq_getElem hi)
  obtain ⟨A0, c0, A1, c1, ec, l0, g0, l1, g1⟩ := k47_open hx
  have h0 : inner[i * 2]? = some (.slice A0 (s[i]).f0.length c0) := by
   have h := congrArg (fun z => z[0]?) ec
   simpa [List.getElem?_take, List.getElem?_drop] using h
  have h1 : inner[i * 2 + 1]? = some (.slice A1 (s[i]).f1.length c1) := by
   have h := congrArg (fun z => z[1]?) ec
   simpa [List.getElem?_take, List.getElem?_drop] using h
  have hlt := (Array.getElem?_eq_some_iff.1 (hcur _ _ h1)).1
  rw [hrd] at hcp hCp h9
  refine ⟨[.slice A0 (s[i]).f0.length c0, .slice Ap ((s[i]).f1 ++ [(⟨t, nv⟩ : S26)]).length cp], rfl, ?_, fun k u hu => ?_⟩
  ·rw [hrd]
   exact k47_mk _ ⟨(s[i]).f0, (s[i]).f1 ++ [⟨t, nv⟩]⟩ l0 (Kd.C_below g0 (by rw [← hrd]; exact hb9)) hcp hCp
  ·have hsz : k47.sz = 2 := rfl
   rw [hrd, add_plain, (row_cells h9 _).1, Array.getElem?_setIfInBounds, hsz]
   cases k with
   | zero =>
    rw [if_neg (by omega)]
    have := hcur _ _ h0
    simp at hu
    rw [← hu]
    exact this
   | succ k =>
    cases k with
    | zero =>
     rw [if_pos (by omega), if_pos hlt]
     simpa using hu
    | succ k => simp at hu
 ·rw [if_neg e] at hj
  have hx : k47.K w p ((inner.drop (j * 2)).take 2) := hr.2 j p hj
  refine ⟨_, k47.K_len hx, k47.K_below hb9 hx, fun k u hu => ?_⟩
  rw [List.getElem?_take] at hu
  split at hu
  ·rw [List.getElem?_drop] at hu
   have hsz : k47.sz = 2 := rfl
   rw [hsz, add_plain, (row_cells h9 _).1, Array.getElem?_setIfInBounds, if_neg (by omega)]
   exact hcur _ _ hu
  ·cases hu
end
end Go.Proofs.YtfbockgjhbfidaaGreatDoor.Pr
