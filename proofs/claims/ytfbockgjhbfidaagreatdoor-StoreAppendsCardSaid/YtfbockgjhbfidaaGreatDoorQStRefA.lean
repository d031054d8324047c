/- Texts of this session, cut down to what one claim needs and joined: StRefA. -/
import Derived.Test.YtfbockgjhbfidaaGreatDoorQStPure2
import Derived.Test.YtfbockgjhbfidaaGreatDoorQLbPureC
import Derived.Test.YtfbockgjhbfidaaGreatDoorQGPr
import Derived.Test.YtfbockgjhbfidaaGreatDoorQPrSoundingsref04Norm
import Derived.Test.YtfbockgjhbfidaaGreatDoorQPrSoundingsref05Right
import Derived.Test.YtfbockgjhbfidaaGreatDoorQPrSoundingsref01Make
import Derived.BigQuiet
set_option linter.unusedVariables false
set_option linter.unusedSimpArgs false
namespace Go.Proofs.YtfbockgjhbfidaaGreatDoor.Pr
open Go.RowKit Go.Proofs.Fl Go.Proofs.YtfbockgjhbfidaaGreatDoorW.PrintWords Go.Proofs.YtfbockgjhbfidaaGreatDoorW.PrintLast Go.Proofs.YtfbockgjhbfidaaGreatDoorW.PrintMore

/-- The reference's Append, one series after the other. -/
def refGo (m : Lbs) (t nv : Int) : List Ser → Bool → List Ser → Option (List Ser)
 | [], put, out => some (if put = true then out else out ++ [newS m t nv])
 | x :: r, put, out =>
  if cmpLs x.f0 m = 0 then (if (x.f1.getLastD z26).f0 ≥ t then none else refGo m t nv r true (out ++ [⟨x.f0, x.f1 ++ [⟨t, nv⟩]⟩]))
  else if 0 < cmpLs x.f0 m then (if put = true then refGo m t nv r true (out ++ [x]) else refGo m t nv r true (out ++ [newS m t nv] ++ [x]))
  else refGo m t nv r put (out ++ [x])
theorem heapS : Kd.Heap k47 := Kd.heap_iso _ (Kd.heap_pair (Kd.heap_slice _ (Kd.heap_iso _ (Kd.heap_pair Kd.heap_string Kd.heap_string))) (Kd.heap_slice _ (Kd.heap_iso _ (Kd.heap_pair (Kd.heap_int _) (Kd.heap_int _)))))
theorem frz_below {w w1 : World} (h : Below w.heap.size w w1) {a : Addr} {v : Value} (hc : w.cell? a = some v) (hf : w.frozen? a = false) : w1.frozen? a = false := (h.frozen (World.block_lt_of_cell? w a hc)).trans hf
theorem FK_mk {W : World} {ok : Nat → Prop} (x : Ser) {B0 B1 : Option Addr} {d0 d1 : Nat} (l0 : x.f0.length ≤ d0) (h0 : Kd.F k44 W ok B0 x.f0.length x.f0) (l1 : x.f1.length ≤ d1) (h1 : Kd.F k26 W ok B1 x.f1.length x.f1) : Kd.FK k47 W ok x [.slice B0 x.f0.length d0, .slice B1 x.f1.length d1] := fun W' hW => k47_mk W' x l0 (h0 W' hW) l1 (h1 W' hW)
theorem F_newpt (w : World) (t v : Int) : Kd.F k26 (w.alloc (.cells #[.int .i64 t, .int .u64 v] 26)) (fun k => k = w.heap.size) (some ⟨w.heap.size, 0, none⟩) 1 [⟨t, v⟩] := fun W' hW => by
 have h := hW w.heap.size rfl (by simp)
 rw [heap_alloc_new] at h
 exact ⟨rfl, by decide, fun _ => ⟨_, rfl, fun j p hj => by
  cases j with
  | zero =>
   obtain rfl : (⟨t, v⟩ : S26) = p := by simpa using hj
   refine ⟨[.int .i64 t, .int .u64 v], rfl, k26_mk W' _, fun i u hu => ?_⟩
   rw [Nat.zero_mul, Nat.zero_add, add_plain, (row_cells h i).1, List.getElem?_toArray]
   exact hu
  | succ j => simp at hj⟩⟩
theorem own_far {v : Value} {N k : Nat} (hb : ∀ k, v.ownBlock = some k → N ≤ k) (hk : k < N) : some k ≠ v.ownBlock := fun h => by have := hb k h.symm; omega
theorem val_step' {P : Program} {ops : Array Oper} {oi : Oper} {a : Act} {w w1 : World} {N : Option Tmp} {v : Value} {K : Act → World → Prop} {Q : Exit → Act → World → Prop} (hw : Region.wanted oi (yielded ops a.tmps) = true) (hN : oi.dst = N) (hrun : (execOp a.eval oi).run P w = .ok (.value v) w1)
  (h : K (a.put N v) w1) : if Region.wanted oi (yielded ops a.tmps) = true then Oper.wp P oi a w K Q else K (a.put N undef) w := by
 rw [if_pos hw]
 unfold Oper.wp
 rw [hrun]
 subst hN
 exact h
theorem infoPt' : (Tryz.prog.info? 26).map (fun i => (i.zero, i.size, i.bytes)) = some (some (.agg #[.int .i64 0, .int .u64 0]), 2, 16) := by kernel_rfl
theorem C_one' (w : World) (b : Nat) (t nv : Int) (h : w.heap[b]? = some (.cells #[.int .i64 t, .int .u64 nv] 26 (0, 0))) : Kd.C k26 w (some ⟨b, 0, none⟩) 1 [⟨t, nv⟩] := ⟨rfl, by decide, fun _ => ⟨_, rfl, fun j p hj => by
 cases j with
 | zero =>
  obtain rfl : (⟨t, nv⟩ : S26) = p := by simpa using hj
  refine ⟨[.int .i64 t, .int .u64 nv], rfl, k26_mk w ⟨t, nv⟩, fun i u hu => ?_⟩
  rw [Nat.zero_mul, Nat.zero_add, add_plain, (row_cells h i).1, List.getElem?_toArray]
  exact hu
 | succ j => simp at hj⟩⟩
/-- Behind the store into x's block. -/
theorem ref_fin {W0 w6 ws : World} {N z : Nat} {v : Value} {out : List Ser} {x : Ser} {B0 : Option Addr} {d0 : Nat} {A9 : Option Addr} {c9 : Nat} {pts : List S26} (hz : z < N) (hN0 : N ≤ w6.heap.size) (HN : Kd.N k47 47 w6 N (fun _ => True) v out) (hb : Below w6.heap.size w6 ws) (hB : Below N W0 w6) (h0 : N = W0.heap.size)
  (HF0 : Kd.F k44 W0 (fun k => k < z) B0 x.f0.length x.f0) (hl0 : x.f0.length ≤ d0) (hR : Kd.R k26 26 ws (w6.heap.size + 1) (fun _ => True) (.slice A9 pts.length c9) pts) :
  Kd.N k47 47 (ws.setCell ⟨w6.heap.size, 1, none⟩ (.slice A9 pts.length c9)) N (fun _ => True) v out ∧ Below N W0 (ws.setCell ⟨w6.heap.size, 1, none⟩ (.slice A9 pts.length c9)) ∧
   Kd.FK k47 (ws.setCell ⟨w6.heap.size, 1, none⟩ (.slice A9 pts.length c9)) (fun k => some k ≠ v.ownBlock) (⟨x.f0, pts⟩ : Ser) [.slice B0 x.f0.length d0, .slice A9 pts.length c9] := by
 subst h0
 have hR0 := Kd.R_tight rfl hR
 obtain ⟨A', c', e', hc', _⟩ := Kd.R_reads hR
 have hc9 : pts.length ≤ c9 := by injection e' with e1 e2 e3; rw [e3]; exact hc'
 have hn1 := Kd.N_far (Kd.N_below (Kd.N_bound HN) hb) (p := ⟨w6.heap.size, 1, none⟩) (fun k hk he => by have h2 : k = w6.heap.size := he; have := hk.2; omega) (.slice A9 pts.length c9)
 have hbs : Below W0.heap.size W0 ws := below_step hB hb
 have hbf : Below W0.heap.size W0 (ws.setCell ⟨w6.heap.size, 1, none⟩ (.slice A9 pts.length c9)) := hbs.setCell (by show W0.heap.size ≤ w6.heap.size; exact hN0) _
 refine ⟨Kd.N_mono hn1 (fun _ _ => trivial), hbf, FK_mk (⟨x.f0, pts⟩ : Ser) hl0 (Kd.F_mono (Kd.F_below HF0 hbf) (fun k hk => own_far (Kd.N_base HN) (Nat.lt_trans hk hz))) hc9 ?_⟩
 have hF := Kd.F_mono (Kd.R_F hR0) (ok' := fun k => w6.heap.size + 1 ≤ k) (fun k hk => Kd.R_base hR k hk.symm)
 exact Kd.F_mono (Kd.F_far hF (p := ⟨w6.heap.size, 1, none⟩) (fun k hk he => by have h2 : k = w6.heap.size := he; omega) _) (fun k hk he => by have := Kd.N_lt HN k he.symm; omega)
def refOut (r : Option (List Ser)) : List Ser × Int := match r with | some o => (o, 0) | none => ([], 3)
def RefPost (r : Option (List Ser)) (w : World) (e : Ending) (w' : World) : Prop := ∃ A c, e = .returned (.tuple #[.slice A (refOut r).1.length c, .int .i64 (refOut r).2]) ∧ (refOut r).1.length ≤ c ∧ Kd.C k47 w' A (refOut r).1.length (refOut r).1 ∧ Below w.heap.size w w'

set_option maxHeartbeats 8000000 in
set_option maxRecDepth 100000 in
theorem ref_loop (A0 : Option Addr) (c0 : Nat) (s : List Ser) (A1 : Option Addr) (c1 : Nat) (l m : Lbs) (tp vp nv : Int) (r : Option (List Ser)) (kr km kc : Nat) (w : World)
  (hr0 : Kd.C k47 w A0 s.length s) (hc0 : s.length ≤ c0) (hr1 : Kd.C k44 w A1 l.length l) (hc1 : l.length ≤ c1)
  (hs : okS s) (hR : soundingsref05_Right.f kr s = some true) (hM : soundingsref01_Make.f km l = some (m, true)) (hm0 : ((m.length : Int) == 0) = false) (hm1 : ¬ (m = [])) (ht1 : ¬ tp < -1125899906842624) (ht2 : ¬ tp > 1125899906842624)
  (hN : soundingsref04_Norm.f vp = some nv) (hC : ∀ x ∈ s, soundingsref01_Cmp.f kc x.f0 m = some (cmpLs x.f0 m)) (hp : ∀ x ∈ s, 0 < x.f1.length) (hG : refGo m tp nv s false [] = r) :
  Calls Tryz.prog 9 #[.slice A0 s.length c0, .slice A1 l.length c1, .agg #[.int .i64 tp, .int .u64 vp]] w (RefPost r w) := by
 obtain ⟨w0, hw0⟩ : ∃ w0, w0 = w.alloc (.cells #[.int .i64 tp, .int .u64 vp] 26) := ⟨_, rfl⟩
 have hbw0 : Below w.heap.size w w0 := by rw [hw0]; exact below_alloc (Below.refl _ _) _
 have HP0 : Aside0 (w0.cell? ⟨w.heap.size, 0, none⟩ = some (.int .i64 tp)) := ⟨by rw [hw0]; go_simp⟩
 have HP1 : Aside0 (w0.cell? ⟨w.heap.size, 1, none⟩ = some (.int .u64 vp)) := ⟨by rw [hw0]; go_simp⟩
 have HF1 : Aside0 (w0.frozen? ⟨w.heap.size, 1, none⟩ = false) := ⟨by rw [hw0]; go_simp⟩
 have HSF0 := Aside0.mk (Kd.C_F heapS hr0)
 have HR0 := Aside0.mk (Kd.C_below hr0 hbw0)
 have HR1 := Aside0.mk (Kd.C_below hr1 hbw0)
 have HC0 := Aside0.mk hc0
 have HC1 := Aside0.mk hc1
 have HB0 := Aside0.mk (Below.refl w0.heap.size w0)
 have HBW := Aside0.mk hbw0
 have HW0 := Aside0.mk hw0
 have HR := Aside0.mk hR
 have HM := Aside0.mk hM
 have HNm := Aside0.mk hN
 have HC := Aside0.mk hC
 have HG := Aside0.mk hG
 have HS := Aside0.mk hs
 have HP := Aside0.mk hp
 clear hr0 hc0 hr1 hc1 hbw0 hw0 hR hM hN hC hG hs hp
 go_enter Tryz.func9, Tryz.ntmps9
 go_wp2_with (first
  | (go_at_call 15; rw [← HW0.out]; with_reducible refine (soundingsref05_Right.calls kr A0 c0 s true _ HR0.out HC0.out HR.out).mono ?_; rintro e w1 ⟨rfl, hb⟩; have HB1 := Aside0.mk (below_step HB0.out hb); have p0 := pw_cell_below hb HP0.out; have p1 := pw_cell_below hb HP1.out; clear hb)
  | (go_at_call 23; with_reducible refine (soundingsref01_Make.calls km A1 c1 l m true _ (Kd.C_below HR1.out HB1.out) HC1.out HM.out).mono ?_; rintro e w2 ⟨v2, rfl, ho, hb⟩; obtain ⟨A5, c5, rfl, hc, hC⟩ := Kd.R_reads ho; have HM5 := Aside0.mk (Kd.F_mono (Kd.R_F (Kd.R_tight rfl ho)) (fun k hk => Kd.R_base ho k hk.symm)); have HB2 := Aside0.mk (below_step HB1.out hb); have HC5 := Aside0.mk hc; have HR5 := Aside0.mk hC; replace p0 := pw_cell_below hb p0; replace p1 := pw_cell_below hb p1; clear hb ho hc hC)
  | (go_at_call 24; with_reducible refine (soundingsref04_Norm.calls vp nv _ HNm.out).mono ?_; rintro e w3 ⟨rfl, hd⟩; have HB3 := Aside0.mk (below_step HB2.out hd.below); have HR5b := Aside0.mk (Kd.C_below HR5.out hd.below); have HM5b := Aside0.mk (Kd.F_below HM5.out hd.below); replace p0 := pw_cell_below hd.below p0; replace p1 := pw_cell_below hd.below p1; have f1 := frz_below HB3.out HP1.out HF1.out; clear hd))
 obtain ⟨W0, hW0⟩ : ∃ W, W = w3.setCell { block := w.heap.size, off := 1 } (.int .u64 nv) := ⟨_, rfl⟩
 have hsz : W0.heap.size = w3.heap.size := by rw [hW0]; simp
 have HBX : Aside0 (Below w.heap.size w W0) := ⟨by rw [hW0]; exact (below_step HBW.out HB3.out).setCell (Nat.le_refl _) _⟩
 have q0 : W0.cell? ⟨w.heap.size, 0, none⟩ = some (.int .i64 tp) := by rw [hW0]; go_simp
 have q1 : W0.cell? ⟨w.heap.size, 1, none⟩ = some (.int .u64 nv) := by rw [hW0]; go_simp
 have HQ0 := Aside0.mk q0
 have HQ1 := Aside0.mk q1
 have hlt : w.heap.size < W0.heap.size := World.block_lt_of_cell? W0 _ q0
 have HLT := Aside0.mk hlt
 have HSF := Aside0.mk (Kd.F_below HSF0.out HBX.out)
 have h1 : w.heap.size < w1.heap.size := by have := World.block_lt_of_cell? w1 _ (pw_cell_below HB1.out HP0.out); exact this
 have HMF : Aside0 (Kd.F k44 W0 (fun k => w1.heap.size ≤ k ∧ k < W0.heap.size) A5 m.length m) := ⟨by rw [hsz, hW0]; exact Kd.F_far (Kd.F_bound HM5b.out) (p := ⟨w.heap.size, 1, none⟩) (fun k hk he => by have h2 : k = w.heap.size := he; have := hk.1; omega) _⟩
 have HH1 := Aside0.mk h1
 rw [← hW0]
 clear HW0 HF1 HP0 HP1 HB0 HB1 HB2 HB3 HR5 HR5b HM5 HM5b HR0 HSF0 hsz hW0 q0 q1 p0 p1 f1 h1 hlt
 have hsl : s.length ≤ 1000000 := HS.out.1
 go_loopw [10, 11, 12] (fun v10 v11 v12 w' => ∃ (i : Nat) (put : Bool) (out : List Ser), v11 = .bool put ∧ v12 = .int .i64 i ∧ i ≤ s.length ∧ Aside0 (refGo m tp nv (s.drop i) put out = r) ∧ Aside0 (out.length ≤ 2 * i) ∧ Aside0 (Kd.N k47 47 w' W0.heap.size (fun _ => True) v10 out) ∧ Aside0 (Below W0.heap.size W0 w')) (fun _ _ v12 _ => s.length - (intOf v12).toNat)
 case atStart => exact ⟨0, false, [], rfl, rfl, Nat.zero_le _, HG, ⟨Nat.le_refl _⟩, ⟨Kd.N_nil _ _ _ _ _⟩, ⟨Below.refl _ _⟩⟩
 case round =>
  clear HG
  obtain ⟨i, put, out, rfl, rfl, hil, HG, HLo, HN, HBi⟩ := hrel
  by_cases hlt : i < s.length
  ·obtain ⟨x, hx⟩ : ∃ x, x = s[i] := ⟨_, rfl⟩
   have hxm : x ∈ s := by rw [hx]; exact List.getElem_mem hlt
   have hxg : s.getD i z47 = x := by rw [List.getD_eq_getElem?_getD, List.getElem?_eq_getElem hlt, hx]; rfl
   have hdr : s.drop i = x :: s.drop (i + 1) := by rw [List.drop_eq_getElem_cons hlt, hx]
   have HCx := Aside0.mk (HC.out x hxm)
   have HPx := Aside0.mk (HP.out x hxm)
   have HSx := Aside0.mk (HS.out.2 x hxm)
   have HGx : Aside0 (refGo m tp nv (x :: s.drop (i + 1)) put out = r) := ⟨by rw [← hdr]; exact HG.out⟩
   obtain ⟨ad, cx, he, hcl, hFK, hcc, _⟩ := Kd.F_get HSF.out z47 (i : Int) (by omega) (by omega)
   rw [Int.toNat_natCast, hxg] at hFK
   obtain ⟨B0, d0, B1, d1, rfl, hl0, hF0, hl1, hF1⟩ := k47_openF hFK
   have hx0 : W0.cell? (ad.add (i * 2)) = some (.slice B0 x.f0.length d0) := by have := hcc 0 _ rfl; rwa [Int.toNat_natCast] at this
   have hx1 : W0.cell? ⟨(ad.add (i * 2)).block, (ad.add (i * 2)).off + 1, none⟩ = some (.slice B1 x.f1.length d1) := by have := hcc 1 _ rfl; rw [Int.toNat_natCast] at this; rw [← add_field _ _ 1 (by omega)]; exact this
   have HX0 := Aside0.mk hx0
   have HX1 := Aside0.mk hx1
   replace hx0 := pw_cell_below HBi.out hx0
   replace hx1 := pw_cell_below HBi.out hx1
   have HFx := Aside0.mk hFK
   have HF0 := Aside0.mk hF0
   have HF1 := Aside0.mk hF1
   have HL0 := Aside0.mk hl0
   have HL1 := Aside0.mk hl1
   have q0 := pw_cell_below HBi.out HQ0.out
   have q1 := pw_cell_below HBi.out HQ1.out
   subst he
   obtain ⟨Ao, co, eo⟩ := Kd.N_slice HN.out
   subst eo
   clear hx hxm hxg hdr HG hFK hcl hcc hF0 hF1 hl0 hl1
   have p1 : (0 : Int) ≤ (i : Int) := by omega
   have p2 : (i : Int) < (s.length : Int) := by omega
   have p3 : wrap64 ((i : Int) + 1) = (i : Int) + 1 := by unfold wrap64; omega
   obtain ⟨n, hn⟩ : ∃ n, n = cmpLs x.f0 m := ⟨_, rfl⟩
   rw [← hn] at HCx
   by_cases hz : n = 0
   ·have hG := HGx.out
    unfold refGo at hG
    rw [← hn, if_pos hz] at hG
    have HG2 := Aside0.mk hG
    clear hn HGx hG
    subst hz
    obtain ⟨q, hq⟩ : ∃ q, x.f1.length = q + 1 := ⟨x.f1.length - 1, by have := HPx.out; omega⟩
    have hq6 : q ≤ 1000000 := by have := HSx.out.2; omega
    obtain ⟨ae, hB, hl0, hl1⟩ := at_T26 (Kd.F_now HF1.out) (q : Int) (by omega) (by rw [hq]; omega)
    subst hB
    rw [Int.toNat_natCast] at hl0
    obtain ⟨T, hT⟩ : ∃ T, T = (rd_T26 x.f1 (q : Int)).f0 := ⟨_, rfl⟩
    rw [← hT] at hl0
    have hT2 : (x.f1.getLastD z26).f0 = T := by
     rw [hT, rdP_at _ _ (by omega), List.getLastD_eq_getLast?, List.getLast?_eq_getElem?, List.getElem?_eq_getElem (by omega)]
     show (x.f1[x.f1.length - 1]'(by omega)).f0 = _
     congr 2
     omega
    have HPT := Aside0.mk hl0
    have HX1q : Aside0 (W0.cell? ⟨(ad.add (i * 2)).block, (ad.add (i * 2)).off + 1, none⟩ = some (.slice (some ae) (q + 1) d1)) := ⟨by rw [← hq]; exact HX1.out⟩
    replace hx1 := pw_cell_below HBi.out HX1q.out
    have p4 : wrap64 (q : Int) = (q : Int) := by unfold wrap64; omega
    have p5 : (0 : Int) ≤ (q : Int) := by omega
    have p6 : (q : Int) < (q : Int) + 1 := by omega
    have hG := HG2.out
    rw [hT2] at hG
    have HQ := Aside0.mk hq
    clear hT hT2 hl0 hl1 HG2 HX1 hq
    by_cases hge : T ≥ tp
    ·rw [if_pos hge] at hG
     subst hG
     go_wp2_with (first
      | (go_at_call 25; with_reducible refine (soundingsref01_Cmp.calls kc B0 d0 x.f0 A5 c5 m 0 _ (Kd.F_now (Kd.F_below HF0.out HBi.out)) HL0.out (Kd.F_now (Kd.F_below HMF.out HBi.out)) HC5.out HCx.out).mono ?_; rintro e w6 ⟨rfl, hd⟩; have HB6 := Aside0.mk (below_step HBi.out hd.below); have HN6 := Aside0.mk (Kd.N_below HN.out hd.below); replace hx0 := pw_cell_below HB6.out HX0.out; replace hx1 := pw_cell_below HB6.out HX1q.out; replace q0 := pw_cell_below HB6.out HQ0.out; replace q1 := pw_cell_below HB6.out HQ1.out; clear hd))
     obtain ⟨W6, hW6⟩ : ∃ W, W = w6.alloc (.cells #[.slice B0 x.f0.length d0, .slice (some ae) (q + 1) d1] 47) := ⟨_, rfl⟩
     have e0 : W6.cell? ⟨w6.heap.size, 0, none⟩ = some (.slice B0 x.f0.length d0) := by rw [hW6]; go_simp
     have e1 : W6.cell? ⟨w6.heap.size, 1, none⟩ = some (.slice (some ae) (q + 1) d1) := by rw [hW6]; go_simp
     have HWB : Aside0 (Below w6.heap.size w6 W6) := ⟨by rw [hW6]; exact below_alloc (Below.refl _ _) _⟩
     have HWZ : Aside0 (W6.heap.size = w6.heap.size + 1) := ⟨by rw [hW6]; simp⟩
     have HW6 := Aside0.mk hW6
     rw [← hW6]
     have e2 := pw_cell_below (below_step HB6.out HWB.out) HPT.out
     have e3 := pw_cell_below HWB.out q0
     have e4 := pw_cell_below HWB.out q1
     clear hW6 q0 q1 hx0 hx1
     refine start_ (n := 12) (S := fun w' => w'.cell? ⟨w6.heap.size, 1, none⟩ = some (.slice (some ae) (q + 1) d1) ∧ w'.cell? (ae.add (q * 2)) = some (.int .i64 T) ∧ w'.cell? ⟨w.heap.size, 0, none⟩ = some (.int .i64 tp)) (ds := []) (bz 12 0) (by kernel_rfl) rfl rfl ⟨e1, e2, e3⟩ (fun hHeld => ?_)
     refine pq 0 74 (bz 12 1) (by kernel_rfl) ?_
     refine tq 1 75 (bz 12 3) (by kernel_rfl) rfl rfl (by rintro w' ⟨s0, s1, s2⟩; go_simp; with_reducible rfl) hHeld ?_
     refine pq 2 76 (bz 12 7) (by kernel_rfl) ?_
     refine tq 3 77 (bz 12 15) (by kernel_rfl) rfl rfl (by rintro w' ⟨s0, s1, s2⟩; go_simp; with_reducible rfl) hHeld ?_
     refine pq 4 78 (bz 12 31) (by kernel_rfl) ?_
     refine pq 5 79 (bz 12 63) (by kernel_rfl) ?_
     refine pq 6 80 (bz 12 127) (by kernel_rfl) ?_
     refine pq 7 81 (bz 12 255) (by kernel_rfl) ?_
     refine tq 8 82 (bz 12 511) (by kernel_rfl) rfl rfl (by rintro w' ⟨s0, s1, s2⟩; go_simp; with_reducible rfl) hHeld ?_
     refine pq 9 83 (bz 12 1023) (by kernel_rfl) ?_
     refine tq 10 84 (bz 12 2047) (by kernel_rfl) rfl rfl (by rintro w' ⟨s0, s1, s2⟩; go_simp; with_reducible rfl) hHeld ?_
     refine pq 11 85 (bz 12 4095) (by kernel_rfl) ?_
     refine done_ (by kernel_rfl) ?_
     go_wp2
     go_ret2
     exact ⟨none, 0, rfl, Nat.le_refl _, C_none _ 0, below_drew1 (below_step HBX.out (below_step HB6.out HWB.out))⟩
    ·rw [if_neg hge] at hG
     have HG' := Aside0.mk hG
     clear hG
     go_wp2_with (first
      | (go_at_call 25; with_reducible refine (soundingsref01_Cmp.calls kc B0 d0 x.f0 A5 c5 m 0 _ (Kd.F_now (Kd.F_below HF0.out HBi.out)) HL0.out (Kd.F_now (Kd.F_below HMF.out HBi.out)) HC5.out HCx.out).mono ?_; rintro e w6 ⟨rfl, hd⟩; have HB6 := Aside0.mk (below_step HBi.out hd.below); have HN6 := Aside0.mk (Kd.N_below HN.out hd.below); replace hx0 := pw_cell_below HB6.out HX0.out; replace hx1 := pw_cell_below HB6.out HX1q.out; replace q0 := pw_cell_below HB6.out HQ0.out; replace q1 := pw_cell_below HB6.out HQ1.out; clear hd))
     obtain ⟨W6, hW6⟩ : ∃ W, W = w6.alloc (.cells #[.slice B0 x.f0.length d0, .slice (some ae) (q + 1) d1] 47) := ⟨_, rfl⟩
     have e0 : W6.cell? ⟨w6.heap.size, 0, none⟩ = some (.slice B0 x.f0.length d0) := by rw [hW6]; go_simp
     have e1 : W6.cell? ⟨w6.heap.size, 1, none⟩ = some (.slice (some ae) (q + 1) d1) := by rw [hW6]; go_simp
     have HWB : Aside0 (Below w6.heap.size w6 W6) := ⟨by rw [hW6]; exact below_alloc (Below.refl _ _) _⟩
     have HWZ : Aside0 (W6.heap.size = w6.heap.size + 1) := ⟨by rw [hW6]; simp⟩
     have HW6 := Aside0.mk hW6
     rw [← hW6]
     have e2 := pw_cell_below (below_step HB6.out HWB.out) HPT.out
     have e3 := pw_cell_below HWB.out q0
     have e4 := pw_cell_below HWB.out q1
     clear hW6 q0 q1 hx0 hx1
     refine start_ (n := 12) (S := fun w' => w'.cell? ⟨w6.heap.size, 1, none⟩ = some (.slice (some ae) (q + 1) d1) ∧ w'.cell? (ae.add (q * 2)) = some (.int .i64 T) ∧ w'.cell? ⟨w.heap.size, 0, none⟩ = some (.int .i64 tp)) (ds := []) (bz 12 0) (by kernel_rfl) rfl rfl ⟨e1, e2, e3⟩ (fun hHeld => ?_)
     refine pq 0 74 (bz 12 1) (by kernel_rfl) ?_
     refine tq 1 75 (bz 12 3) (by kernel_rfl) rfl rfl (by rintro w' ⟨s0, s1, s2⟩; go_simp; with_reducible rfl) hHeld ?_
     refine pq 2 76 (bz 12 7) (by kernel_rfl) ?_
     refine tq 3 77 (bz 12 15) (by kernel_rfl) rfl rfl (by rintro w' ⟨s0, s1, s2⟩; go_simp; with_reducible rfl) hHeld ?_
     refine pq 4 78 (bz 12 31) (by kernel_rfl) ?_
     refine pq 5 79 (bz 12 63) (by kernel_rfl) ?_
     refine pq 6 80 (bz 12 127) (by kernel_rfl) ?_
     refine pq 7 81 (bz 12 255) (by kernel_rfl) ?_
     refine tq 8 82 (bz 12 511) (by kernel_rfl) rfl rfl (by rintro w' ⟨s0, s1, s2⟩; go_simp; with_reducible rfl) hHeld ?_
     refine pq 9 83 (bz 12 1023) (by kernel_rfl) ?_
     refine tq 10 84 (bz 12 2047) (by kernel_rfl) rfl rfl (by rintro w' ⟨s0, s1, s2⟩; go_simp; with_reducible rfl) hHeld ?_
     refine pq 11 85 (bz 12 4095) (by kernel_rfl) ?_
     refine done_ (by kernel_rfl) ?_
     go_wp2
     obtain ⟨W7, hW7⟩ : ∃ W, W = W6.drew := ⟨_, rfl⟩
     have hW7b : Below W6.heap.size W6 W7 := by rw [hW7]; exact below_drew1 (Below.refl _ _)
     have hb67 : Below w6.heap.size w6 W7 := below_step HWB.out hW7b
     have HB67 := Aside0.mk hb67
     have HZ7 : Aside0 (w6.heap.size + 1 ≤ W7.heap.size) := ⟨by have := hW7b.size; have := HWZ.out; omega⟩
     have g0 : W7.cell? ⟨w6.heap.size, 0, none⟩ = some (.slice B0 x.f0.length d0) := pw_cell_below hW7b e0
     have g1 : W7.cell? ⟨w6.heap.size, 1, none⟩ = some (.slice (some ae) (q + 1) d1) := pw_cell_below hW7b e1
     have g3 : W7.cell? ⟨w.heap.size, 0, none⟩ = some (.int .i64 tp) := pw_cell_below hW7b e3
     have g4 : W7.cell? ⟨w.heap.size, 1, none⟩ = some (.int .u64 nv) := pw_cell_below hW7b e4
     have gf : W7.frozen? ⟨w6.heap.size, 1, none⟩ = false := frz_below hW7b e1 (by rw [HW6.out]; go_simp)
     have HGF := Aside0.mk gf
     have HG0 := Aside0.mk g0
     have HG1 := Aside0.mk g1
     have HCP : Aside0 (Kd.C k26 W0 (some ae) (q + 1) x.f1) := ⟨by rw [← HQ.out]; exact Kd.F_now HF1.out⟩
     have HB07 := Aside0.mk (below_step HB6.out hb67)
     obtain ⟨pts2, hp2⟩ : ∃ p : List S26, p = x.f1 ++ [⟨tp, nv⟩] := ⟨_, rfl⟩
     rw [← hp2] at HG'
     have HP2 := Aside0.mk hp2
     rw [← hW7]
     clear hW7 hW7b hb67 e0 e1 e2 e3 e4 gf hp2
     refine start_ (n := 9) (S := fun w' => w'.cell? ⟨w6.heap.size, 1, none⟩ = some (.slice (some ae) (q + 1) d1) ∧ w'.cell? ⟨w.heap.size, 0, none⟩ = some (.int .i64 tp) ∧ w'.cell? ⟨w.heap.size, 1, none⟩ = some (.int .u64 nv)) (ds := [8]) (bz 9 0) (by kernel_rfl) rfl rfl ⟨g1, g3, g4⟩ (fun hHeld => ?_)
     generalize hW8 : W7.drew = W8 at hHeld ⊢
     have h78 : Below W7.heap.size W7 W8 := by rw [← hW8]; exact below_drew1 (Below.refl _ _)
     have HB08 := Aside0.mk (below_step HB07.out h78)
     have HB68 := Aside0.mk (below_step HB67.out h78)
     have HZ8 : Aside0 (w6.heap.size + 1 ≤ W8.heap.size) := ⟨Nat.le_trans HZ7.out h78.size⟩
     have H80 := Aside0.mk (pw_cell_below h78 HG0.out)
     have H81 := Aside0.mk (hHeld.1)
     have H82 := Aside0.mk (hHeld.2.1)
     have H83 := Aside0.mk (hHeld.2.2)
     have HF8 := Aside0.mk (frz_below h78 HG1.out HGF.out)
     have HR8 := Aside0.mk (Below.refl W8.heap.size W8)
     clear hW8 h78 g0 g1 g3 g4
     refine pq 1 87 (bz 9 2) (by kernel_rfl) ?_
     refine tq 2 88 (bz 9 6) (by kernel_rfl) rfl rfl (by rintro w' ⟨s0, s1, s2⟩; go_simp; with_reducible rfl) hHeld ?_
     refine tq 4 90 (bz 9 22) (by kernel_rfl) rfl rfl (by rintro w' ⟨s0, s1, s2⟩; go_simp; with_reducible rfl) hHeld ?_
     refine two_ (i := 0) (j := 5) (Ni := (some 86)) (Nj := (some 91)) (bz 9 23) (bz 9 54) rfl rfl rfl rfl (by kernel_rfl) (by decide) (by decide) (fun K hK => ?_) (fun K hK => ?_)
     ·refine Kd.R_lit_step k26 _ 26 ?hg (N := 86) ?hd (xs := ([] : List S26)) (inner := []) (ok := fun _ => True) (okp := fun _ => True) ?hr ?hp (fun _ hk => hk) trivial (Below.refl _ _) (Nat.le_refl _) (by simp) ?_; (case hd => rfl); (case hg => rfl); (case hr => first | (go_simp; done) | (go_simp; rfl)); (case hp => exact (Reps.none _ _))
      intro v86 w8a ho hb _ _
      have H86 := Aside0.mk (Kd.R_lower ho (below_size (HR8.out)))
      have HB_w8a := Aside0.mk (below_step (HR8.out) hb)
      have HBASE := Aside0.mk (Kd.R_base ho)
      have HBL := Aside0.mk hb
      clear ho
      refine hK.out _ _ ⟨pw_cell_below hb (hHeld.1), pw_cell_below hb (hHeld.2.1), pw_cell_below hb (hHeld.2.2)⟩ (fun hHeld => ?_)
      clear hK K
      refine norm_ (show Act.put _ (some 86) _ = _ by simp only [pu, s0, s1, i64_w, i32_w]; rfl) ?_
      clear hb
      refine two_ (i := 3) (j := 5) (Ni := (some 89)) (Nj := (some 91)) (bz 9 31) (bz 9 55) rfl rfl rfl rfl (by kernel_rfl) (by decide) (by decide) (fun K hK => ?_) (fun K hK => ?_)
      ·refine Kd.R_append_rows_step k26 (w0 := W8) W8.heap.size (by rfl) (.tmp 86) (.tmp 88) 45 26 (.agg #[.int .i64 0, .int .u64 0]) 16 rfl Tryz.underlying45 infoPt' rfl (by decide) (by omega) v86 ([] : List S26) x.f1 _ _ _ (fun _ => True) (fun _ => False) rfl rfl ?aO ?aR (fun _ _ h => h) (fun _ h => h.elim) ?aF ?aB ?aS ?aL ?_
       (case aR => exact Kd.C_below HCP.out (below_step HB08.out (HB_w8a.out)))
       (case aB => exact HB_w8a.out)
       (case aF => exact (fun _ _ => trivial))
       (case aO => exact H86.out)
       (case aS => exact (below_size (HB_w8a.out)))
       (case aL => simp only [List.length_nil]; omega)
       intro v89 w8b ho hb hg hat
       have H89 := Aside0.mk ho
       have HB_w8b := Aside0.mk hb
       have HG_w8b := Aside0.mk hg
       clear ho hg hat
       refine hK.out _ _ ⟨pw_cell_below hb H81.out, pw_cell_below hb H82.out, pw_cell_below hb H83.out⟩ (fun hHeld => ?_)
       clear hK K
       refine norm_ (show Act.put _ (some 89) _ = _ by simp only [pu, s0, s1, i64_w, i32_w]; rfl) ?_
       clear hb
       refine one_ (i := 5) (N := (some 91)) (bz 9 63) rfl rfl (by kernel_rfl) (by decide) (fun K hK => ?_)
       refine val_step' (by rfl) rfl (v := .slice (some ⟨(w8b).heap.size, 0, none⟩) 1 1) (w1 := (w8b).alloc (.cells #[.int .i64 tp, .int .u64 nv] 26)) ?_ ?_
       ·go_simp
       refine hK.out _ _ ⟨Go.Lib.cell?_alloc_some _ (hHeld.1), Go.Lib.cell?_alloc_some _ (hHeld.2.1), Go.Lib.cell?_alloc_some _ (hHeld.2.2)⟩ (fun hHeld => ?_)
       clear hK K
       refine norm_ (show Act.put _ (some 91) _ = _ by simp only [pu, s0, s1, i64_w, i32_w]; rfl) ?_
       refine one_ (i := 6) (N := (some 92)) (bz 9 127) rfl rfl (by kernel_rfl) (by decide) (fun K hK => ?_)
       refine Kd.R_append_rows_step k26 (w0 := W8) W8.heap.size (by rfl) (.tmp 89) (.tmp 91) 45 26 (.agg #[.int .i64 0, .int .u64 0]) 16 rfl Tryz.underlying45 infoPt' rfl (by decide) (by omega) v89 ([] ++ x.f1) [⟨tp, nv⟩] (some ⟨w8b.heap.size, 0, none⟩) 1 1 (fun _ => True) (fun _ => False) rfl rfl ?aO ?aR (fun _ _ h => h) (fun _ h => h.elim) ?aF ?aB ?aS ?aL ?_
       (case aR => exact C_one' _ _ tp nv (heap_alloc_new w8b _))
       (case aB => exact below_alloc HB_w8b.out _)
       (case aF => exact (fun _ _ => trivial))
       (case aO => exact Kd.R_alloc H89.out _)
       (case aS => exact (below_size (below_alloc HB_w8b.out _)))
       (case aL => have := HQ.out; simp only [List.nil_append]; omega)
       intro v92 ws ho hb hg hat
       clear hg hat
       rw [List.nil_append, ← HP2.out] at ho
       have H92 := Aside0.mk (Kd.R_lower ho HZ8.out)
       have HBs := Aside0.mk (below_step HB68.out hb)
       have hfz := frz_below hb H81.out HF8.out
       have hs0 := pw_cell_below hb H80.out
       have hs1 := pw_cell_below hb H81.out
       have hHs : ws.cell? ⟨w6.heap.size, 1, none⟩ = some (.slice (some ae) (q + 1) d1) ∧ ws.cell? ⟨w.heap.size, 0, none⟩ = some (.int .i64 tp) ∧ ws.cell? ⟨w.heap.size, 1, none⟩ = some (.int .u64 nv) := ⟨pw_cell_below hb H81.out, pw_cell_below hb H82.out, pw_cell_below hb H83.out⟩
       obtain ⟨A9, c9, e9, _, _⟩ := Kd.R_reads H92.out
       subst e9
       clear ho hb
       refine hK.out _ _ hHs (fun hHeld => ?_)
       clear hK K
       refine norm_ (show Act.put _ (some 92) _ = _ by simp only [pu, s0, s1, i64_w, i32_w]; rfl) ?_
       clear hHs
       refine pq 7 93 (bz 9 255) (by kernel_rfl) ?_
       refine last_ (i := 8) (N := none) (bz 9 511) rfl rfl (by kernel_rfl) (by decide) (fun K hK => ?_)
       refine skip_ (w1 := ?_) (by rfl) rfl ?_ ?_
       rotate_left
       ·go_simp
        rfl
       refine hK.out _ _ ?_
       clear hK K
       refine done_ (by kernel_rfl) ?_
       obtain ⟨hNf, hBf, hKf⟩ := ref_fin HLT.out (below_size HB6.out) HN6.out HBs.out HB6.out rfl HF0.out HL0.out H92.out
       have HNf := Aside0.mk hNf
       have HBf := Aside0.mk hBf
       have HKf := Aside0.mk hKf
       obtain ⟨Wf, hWf⟩ : ∃ W, W = ws.setCell ⟨w6.heap.size, 1, none⟩ (.slice A9 pts2.length c9) := ⟨_, rfl⟩
       have t0 : Wf.cell? ⟨w6.heap.size, 0, none⟩ = some (.slice B0 x.f0.length d0) := by rw [hWf]; go_simp
       have t1 : Wf.cell? ⟨w6.heap.size, 1, none⟩ = some (.slice A9 pts2.length c9) := by rw [hWf]; go_simp
       rw [← hWf] at HNf HBf HKf ⊢
       clear hWf hNf hBf hKf hs0 hs1 hfz
       go_wp2_with (first
        | ((with_reducible refine gate_builtin (b := .append) (xs := #[.tmp 94, .tmp 96]) rfl ?_); at_builtin; refine Kd.N_append k47 (w0 := W0) W0.heap.size rfl (.tmp 94) (.tmp 96) 22 47 (.agg #[(.slice none 0 0), (.slice none 0 0)]) 48 rfl Tryz.underlying22 info47 rfl (by decide) (by omega) (.slice Ao out.length co) out (⟨x.f0, pts2⟩ : Ser) [.slice B0 x.f0.length d0, .slice A9 pts2.length c9] (fun _ => True) (fun k => some k ≠ (Value.slice Ao out.length co).ownBlock) rfl ?aX ?aP (fun k hk => ⟨trivial, hk⟩) (fun _ _ => trivial) ?aO ?aB ?aS ?aL ?_; (case aX => first | (go_simp; done) | (go_simp; rfl)); (case aP => exact HKf.out); (case aO => exact HNf.out); (case aB => exact HBf.out); (case aS => exact below_size (HBf.out)); (case aL => have := HLo.out; first | omega | (simp only [List.length_append, List.length_cons, List.length_nil]; omega)); intro v9 w9 hN hb hg hat; have HN9 := Aside0.mk hN; have HB9 := Aside0.mk hb; clear hN hb hg hat))
       exact ⟨⟨i + 1, true, out ++ [⟨x.f0, pts2⟩], rfl, by go_num, by omega, HG', ⟨by have := HLo.out; simp only [List.length_append, List.length_cons, List.length_nil]; omega⟩, HN9, HB9⟩, by simp [intOf]; omega⟩
      ·refine val_step' (by rfl) rfl (v := .slice (some ⟨(w8a).heap.size, 0, none⟩) 1 1) (w1 := (w8a).alloc (.cells #[.int .i64 tp, .int .u64 nv] 26)) ?_ ?_
       ·go_simp
       refine hK.out _ _ ⟨Go.Lib.cell?_alloc_some _ (hHeld.1), Go.Lib.cell?_alloc_some _ (hHeld.2.1), Go.Lib.cell?_alloc_some _ (hHeld.2.2)⟩ (fun hHeld => ?_)
       clear hK K
       refine norm_ (show Act.put _ (some 91) _ = _ by simp only [pu, s0, s1, i64_w, i32_w]; rfl) ?_
       refine one_ (i := 3) (N := (some 89)) (bz 9 63) rfl rfl (by kernel_rfl) (by decide) (fun K hK => ?_)
       refine Kd.R_append_rows_step k26 (w0 := W8) W8.heap.size (by rfl) (.tmp 86) (.tmp 88) 45 26 (.agg #[.int .i64 0, .int .u64 0]) 16 rfl Tryz.underlying45 infoPt' rfl (by decide) (by omega) v86 ([] : List S26) x.f1 _ _ _ (fun _ => True) (fun _ => False) rfl rfl ?aO ?aR (fun _ _ h => h) (fun _ h => h.elim) ?aF ?aB ?aS ?aL ?_
       (case aR => exact Kd.C_below HCP.out (below_step HB08.out (below_alloc HB_w8a.out _)))
       (case aB => exact below_alloc HB_w8a.out _)
       (case aF => exact (fun _ _ => trivial))
       (case aO => exact Kd.R_alloc H86.out _)
       (case aS => exact (below_size (below_alloc HB_w8a.out _)))
       (case aL => simp only [List.length_nil]; omega)
       intro v89 w8b ho hb hg hat
       have H89 := Aside0.mk ho
       have HB_w8b := Aside0.mk hb
       have HG_w8b := Aside0.mk hg
       clear ho hg hat
       refine hK.out _ _ ⟨pw_cell_below hb H81.out, pw_cell_below hb H82.out, pw_cell_below hb H83.out⟩ (fun hHeld => ?_)
       clear hK K
       refine norm_ (show Act.put _ (some 89) _ = _ by simp only [pu, s0, s1, i64_w, i32_w]; rfl) ?_
       clear hb
       have HPB := Aside0.mk ((HG_w8b.out.block w8a.heap.size (by simp) (fun h => by have := Kd.R_lt H86.out _ h.symm; omega)).trans (heap_alloc_new w8a _))
       refine one_ (i := 6) (N := (some 92)) (bz 9 127) rfl rfl (by kernel_rfl) (by decide) (fun K hK => ?_)
       refine Kd.R_append_rows_step k26 (w0 := W8) W8.heap.size (by rfl) (.tmp 89) (.tmp 91) 45 26 (.agg #[.int .i64 0, .int .u64 0]) 16 rfl Tryz.underlying45 infoPt' rfl (by decide) (by omega) v89 ([] ++ x.f1) [⟨tp, nv⟩] (some ⟨w8a.heap.size, 0, none⟩) 1 1 (fun _ => True) (fun _ => False) rfl rfl ?aO ?aR (fun _ _ h => h) (fun _ h => h.elim) ?aF ?aB ?aS ?aL ?_
       (case aR => exact C_one' _ _ tp nv (HPB.out))
       (case aB => exact HB_w8b.out)
       (case aF => exact (fun _ _ => trivial))
       (case aO => exact H89.out)
       (case aS => exact (below_size (HB_w8b.out)))
       (case aL => have := HQ.out; simp only [List.nil_append]; omega)
       intro v92 ws ho hb hg hat
       clear hg hat
       rw [List.nil_append, ← HP2.out] at ho
       have H92 := Aside0.mk (Kd.R_lower ho HZ8.out)
       have HBs := Aside0.mk (below_step HB68.out hb)
       have hfz := frz_below hb H81.out HF8.out
       have hs0 := pw_cell_below hb H80.out
       have hs1 := pw_cell_below hb H81.out
       have hHs : ws.cell? ⟨w6.heap.size, 1, none⟩ = some (.slice (some ae) (q + 1) d1) ∧ ws.cell? ⟨w.heap.size, 0, none⟩ = some (.int .i64 tp) ∧ ws.cell? ⟨w.heap.size, 1, none⟩ = some (.int .u64 nv) := ⟨pw_cell_below hb H81.out, pw_cell_below hb H82.out, pw_cell_below hb H83.out⟩
       obtain ⟨A9, c9, e9, _, _⟩ := Kd.R_reads H92.out
       subst e9
       clear ho hb
       refine hK.out _ _ hHs (fun hHeld => ?_)
       clear hK K
       refine norm_ (show Act.put _ (some 92) _ = _ by simp only [pu, s0, s1, i64_w, i32_w]; rfl) ?_
       clear hHs
       refine pq 7 93 (bz 9 255) (by kernel_rfl) ?_
       refine last_ (i := 8) (N := none) (bz 9 511) rfl rfl (by kernel_rfl) (by decide) (fun K hK => ?_)
       refine skip_ (w1 := ?_) (by rfl) rfl ?_ ?_
       rotate_left
       ·go_simp
        rfl
       refine hK.out _ _ ?_
       clear hK K
       refine done_ (by kernel_rfl) ?_
       obtain ⟨hNf, hBf, hKf⟩ := ref_fin HLT.out (below_size HB6.out) HN6.out HBs.out HB6.out rfl HF0.out HL0.out H92.out
       have HNf := Aside0.mk hNf
       have HBf := Aside0.mk hBf
       have HKf := Aside0.mk hKf
       obtain ⟨Wf, hWf⟩ : ∃ W, W = ws.setCell ⟨w6.heap.size, 1, none⟩ (.slice A9 pts2.length c9) := ⟨_, rfl⟩
       have t0 : Wf.cell? ⟨w6.heap.size, 0, none⟩ = some (.slice B0 x.f0.length d0) := by rw [hWf]; go_simp
       have t1 : Wf.cell? ⟨w6.heap.size, 1, none⟩ = some (.slice A9 pts2.length c9) := by rw [hWf]; go_simp
       rw [← hWf] at HNf HBf HKf ⊢
       clear hWf hNf hBf hKf hs0 hs1 hfz
       go_wp2_with (first
        | ((with_reducible refine gate_builtin (b := .append) (xs := #[.tmp 94, .tmp 96]) rfl ?_); at_builtin; refine Kd.N_append k47 (w0 := W0) W0.heap.size rfl (.tmp 94) (.tmp 96) 22 47 (.agg #[(.slice none 0 0), (.slice none 0 0)]) 48 rfl Tryz.underlying22 info47 rfl (by decide) (by omega) (.slice Ao out.length co) out (⟨x.f0, pts2⟩ : Ser) [.slice B0 x.f0.length d0, .slice A9 pts2.length c9] (fun _ => True) (fun k => some k ≠ (Value.slice Ao out.length co).ownBlock) rfl ?aX ?aP (fun k hk => ⟨trivial, hk⟩) (fun _ _ => trivial) ?aO ?aB ?aS ?aL ?_; (case aX => first | (go_simp; done) | (go_simp; rfl)); (case aP => exact HKf.out); (case aO => exact HNf.out); (case aB => exact HBf.out); (case aS => exact below_size (HBf.out)); (case aL => have := HLo.out; first | omega | (simp only [List.length_append, List.length_cons, List.length_nil]; omega)); intro v9 w9 hN hb hg hat; have HN9 := Aside0.mk hN; have HB9 := Aside0.mk hb; clear hN hb hg hat))
       exact ⟨⟨i + 1, true, out ++ [⟨x.f0, pts2⟩], rfl, by go_num, by omega, HG', ⟨by have := HLo.out; simp only [List.length_append, List.length_cons, List.length_nil]; omega⟩, HN9, HB9⟩, by simp [intOf]; omega⟩
     ·refine val_step' (by rfl) rfl (v := .slice (some ⟨(W8).heap.size, 0, none⟩) 1 1) (w1 := (W8).alloc (.cells #[.int .i64 tp, .int .u64 nv] 26)) ?_ ?_
      ·go_simp
      refine hK.out _ _ ⟨Go.Lib.cell?_alloc_some _ (hHeld.1), Go.Lib.cell?_alloc_some _ (hHeld.2.1), Go.Lib.cell?_alloc_some _ (hHeld.2.2)⟩ (fun hHeld => ?_)
      clear hK K
      refine norm_ (show Act.put _ (some 91) _ = _ by simp only [pu, s0, s1, i64_w, i32_w]; rfl) ?_
      refine one_ (i := 0) (N := (some 86)) (bz 9 55) rfl rfl (by kernel_rfl) (by decide) (fun K hK => ?_)
      refine Kd.R_lit_step k26 _ 26 ?hg (N := 86) ?hd (xs := ([] : List S26)) (inner := []) (ok := fun _ => True) (okp := fun _ => True) ?hr ?hp (fun _ hk => hk) trivial (Below.refl _ _) (Nat.le_refl _) (by simp) ?_; (case hd => rfl); (case hg => rfl); (case hr => first | (go_simp; done) | (go_simp; rfl)); (case hp => exact (Reps.none _ _))
      intro v86 w8a ho hb _ _
      have H86 := Aside0.mk (Kd.R_lower ho (below_size (below_alloc HR8.out _)))
      have HB_w8a := Aside0.mk (below_step (below_alloc HR8.out _) hb)
      have HBASE := Aside0.mk (Kd.R_base ho)
      have HBL := Aside0.mk hb
      clear ho
      refine hK.out _ _ ⟨pw_cell_below hb (hHeld.1), pw_cell_below hb (hHeld.2.1), pw_cell_below hb (hHeld.2.2)⟩ (fun hHeld => ?_)
      clear hK K
      refine norm_ (show Act.put _ (some 86) _ = _ by simp only [pu, s0, s1, i64_w, i32_w]; rfl) ?_
      clear hb
      refine one_ (i := 3) (N := (some 89)) (bz 9 63) rfl rfl (by kernel_rfl) (by decide) (fun K hK => ?_)
      refine Kd.R_append_rows_step k26 (w0 := W8) W8.heap.size (by rfl) (.tmp 86) (.tmp 88) 45 26 (.agg #[.int .i64 0, .int .u64 0]) 16 rfl Tryz.underlying45 infoPt' rfl (by decide) (by omega) v86 ([] : List S26) x.f1 _ _ _ (fun _ => True) (fun _ => False) rfl rfl ?aO ?aR (fun _ _ h => h) (fun _ h => h.elim) ?aF ?aB ?aS ?aL ?_
      (case aR => exact Kd.C_below HCP.out (below_step HB08.out (HB_w8a.out)))
      (case aB => exact HB_w8a.out)
      (case aF => exact (fun _ _ => trivial))
      (case aO => exact H86.out)
      (case aS => exact (below_size (HB_w8a.out)))
      (case aL => simp only [List.length_nil]; omega)
      intro v89 w8b ho hb hg hat
      have H89 := Aside0.mk ho
      have HB_w8b := Aside0.mk hb
      have HG_w8b := Aside0.mk hg
      clear ho hg hat
      refine hK.out _ _ ⟨pw_cell_below hb H81.out, pw_cell_below hb H82.out, pw_cell_below hb H83.out⟩ (fun hHeld => ?_)
      clear hK K
      refine norm_ (show Act.put _ (some 89) _ = _ by simp only [pu, s0, s1, i64_w, i32_w]; rfl) ?_
      clear hb
      have HPB := Aside0.mk ((HG_w8b.out.block W8.heap.size (by have := HBL.out.size; simp at this; omega) (fun h => by have := HBASE.out _ h.symm; simp at this; omega)).trans ((HBL.out.block W8.heap.size (by simp)).trans (heap_alloc_new W8 _)))
      refine one_ (i := 6) (N := (some 92)) (bz 9 127) rfl rfl (by kernel_rfl) (by decide) (fun K hK => ?_)
      refine Kd.R_append_rows_step k26 (w0 := W8) W8.heap.size (by rfl) (.tmp 89) (.tmp 91) 45 26 (.agg #[.int .i64 0, .int .u64 0]) 16 rfl Tryz.underlying45 infoPt' rfl (by decide) (by omega) v89 ([] ++ x.f1) [⟨tp, nv⟩] (some ⟨W8.heap.size, 0, none⟩) 1 1 (fun _ => True) (fun _ => False) rfl rfl ?aO ?aR (fun _ _ h => h) (fun _ h => h.elim) ?aF ?aB ?aS ?aL ?_
      (case aR => exact C_one' _ _ tp nv (HPB.out))
      (case aB => exact HB_w8b.out)
      (case aF => exact (fun _ _ => trivial))
      (case aO => exact H89.out)
      (case aS => exact (below_size (HB_w8b.out)))
      (case aL => have := HQ.out; simp only [List.nil_append]; omega)
      intro v92 ws ho hb hg hat
      clear hg hat
      rw [List.nil_append, ← HP2.out] at ho
      have H92 := Aside0.mk (Kd.R_lower ho HZ8.out)
      have HBs := Aside0.mk (below_step HB68.out hb)
      have hfz := frz_below hb H81.out HF8.out
      have hs0 := pw_cell_below hb H80.out
      have hs1 := pw_cell_below hb H81.out
      have hHs : ws.cell? ⟨w6.heap.size, 1, none⟩ = some (.slice (some ae) (q + 1) d1) ∧ ws.cell? ⟨w.heap.size, 0, none⟩ = some (.int .i64 tp) ∧ ws.cell? ⟨w.heap.size, 1, none⟩ = some (.int .u64 nv) := ⟨pw_cell_below hb H81.out, pw_cell_below hb H82.out, pw_cell_below hb H83.out⟩
      obtain ⟨A9, c9, e9, _, _⟩ := Kd.R_reads H92.out
      subst e9
      clear ho hb
      refine hK.out _ _ hHs (fun hHeld => ?_)
      clear hK K
      refine norm_ (show Act.put _ (some 92) _ = _ by simp only [pu, s0, s1, i64_w, i32_w]; rfl) ?_
      clear hHs
      refine pq 7 93 (bz 9 255) (by kernel_rfl) ?_
      refine last_ (i := 8) (N := none) (bz 9 511) rfl rfl (by kernel_rfl) (by decide) (fun K hK => ?_)
      refine skip_ (w1 := ?_) (by rfl) rfl ?_ ?_
      rotate_left
      ·go_simp
       rfl
      refine hK.out _ _ ?_
      clear hK K
      refine done_ (by kernel_rfl) ?_
      obtain ⟨hNf, hBf, hKf⟩ := ref_fin HLT.out (below_size HB6.out) HN6.out HBs.out HB6.out rfl HF0.out HL0.out H92.out
      have HNf := Aside0.mk hNf
      have HBf := Aside0.mk hBf
      have HKf := Aside0.mk hKf
      obtain ⟨Wf, hWf⟩ : ∃ W, W = ws.setCell ⟨w6.heap.size, 1, none⟩ (.slice A9 pts2.length c9) := ⟨_, rfl⟩
      have t0 : Wf.cell? ⟨w6.heap.size, 0, none⟩ = some (.slice B0 x.f0.length d0) := by rw [hWf]; go_simp
      have t1 : Wf.cell? ⟨w6.heap.size, 1, none⟩ = some (.slice A9 pts2.length c9) := by rw [hWf]; go_simp
      rw [← hWf] at HNf HBf HKf ⊢
      clear hWf hNf hBf hKf hs0 hs1 hfz
      go_wp2_with (first
       | ((with_reducible refine gate_builtin (b := .append) (xs := #[.tmp 94, .tmp 96]) rfl ?_); at_builtin; refine Kd.N_append k47 (w0 := W0) W0.heap.size rfl (.tmp 94) (.tmp 96) 22 47 (.agg #[(.slice none 0 0), (.slice none 0 0)]) 48 rfl Tryz.underlying22 info47 rfl (by decide) (by omega) (.slice Ao out.length co) out (⟨x.f0, pts2⟩ : Ser) [.slice B0 x.f0.length d0, .slice A9 pts2.length c9] (fun _ => True) (fun k => some k ≠ (Value.slice Ao out.length co).ownBlock) rfl ?aX ?aP (fun k hk => ⟨trivial, hk⟩) (fun _ _ => trivial) ?aO ?aB ?aS ?aL ?_; (case aX => first | (go_simp; done) | (go_simp; rfl)); (case aP => exact HKf.out); (case aO => exact HNf.out); (case aB => exact HBf.out); (case aS => exact below_size (HBf.out)); (case aL => have := HLo.out; first | omega | (simp only [List.length_append, List.length_cons, List.length_nil]; omega)); intro v9 w9 hN hb hg hat; have HN9 := Aside0.mk hN; have HB9 := Aside0.mk hb; clear hN hb hg hat))
      exact ⟨⟨i + 1, true, out ++ [⟨x.f0, pts2⟩], rfl, by go_num, by omega, HG', ⟨by have := HLo.out; simp only [List.length_append, List.length_cons, List.length_nil]; omega⟩, HN9, HB9⟩, by simp [intOf]; omega⟩
   ·have hz2 : (n == 0) = false := by rw [beq_eq_false_iff_ne]; exact hz
    by_cases hpos : 0 < n
    ·cases put with
     | true =>
      have HG' : Aside0 (refGo m tp nv (s.drop (i + 1)) true (out ++ [x]) = r) := ⟨by have h := HGx.out; unfold refGo at h; rw [← hn, if_neg hz, if_pos hpos, if_pos rfl] at h; exact h⟩
      clear hn HGx
      go_wp2_with (first
      | (go_at_call 25; with_reducible refine (soundingsref01_Cmp.calls kc B0 d0 x.f0 A5 c5 m n _ (Kd.F_now (Kd.F_below HF0.out HBi.out)) HL0.out (Kd.F_now (Kd.F_below HMF.out HBi.out)) HC5.out HCx.out).mono ?_; rintro e w6 ⟨rfl, hd⟩; have HB6 := Aside0.mk (below_step HBi.out hd.below); have HN6 := Aside0.mk (Kd.N_below HN.out hd.below); replace hx0 := pw_cell_below HB6.out HX0.out; replace hx1 := pw_cell_below HB6.out HX1.out; replace q0 := pw_cell_below HB6.out HQ0.out; replace q1 := pw_cell_below HB6.out HQ1.out; clear hd)
      | ((with_reducible refine gate_builtin (b := .append) (xs := #[.tmp 94, .tmp 96]) rfl ?_); at_builtin; refine Kd.N_append k47 (w0 := W0) W0.heap.size rfl (.tmp 94) (.tmp 96) 22 47 (.agg #[(.slice none 0 0), (.slice none 0 0)]) 48 rfl Tryz.underlying22 info47 rfl (by decide) (by omega) (.slice Ao out.length co) out x [.slice B0 x.f0.length d0, .slice B1 x.f1.length d1] (fun _ => True) (fun k => some k ≠ (Value.slice Ao out.length co).ownBlock) rfl ?aX ?aP (fun k hk => ⟨trivial, hk⟩) (fun _ _ => trivial) ?aO ?aB ?aS ?aL ?_; (case aX => first | (go_simp; done) | (go_simp; rfl)); (case aP => exact Kd.FK_mono (Kd.FK_below HFx.out (below_alloc HB6.out _)) (fun k hk => own_far (Kd.N_base HN6.out) (Nat.lt_trans hk HLT.out))); (case aO => exact Kd.N_alloc HN6.out _); (case aB => exact below_alloc HB6.out _); (case aS => exact below_size (below_alloc HB6.out _)); (case aL => have := HLo.out; first | omega | (simp only [List.length_append, List.length_cons, List.length_nil]; omega)); intro v7 w7 hN hb hg hat; have HN7 := Aside0.mk hN; have HB7 := Aside0.mk hb; replace hx0 := pw_cell_below HB7.out HX0.out; replace hx1 := pw_cell_below HB7.out HX1.out; replace q0 := pw_cell_below HB7.out HQ0.out; replace q1 := pw_cell_below HB7.out HQ1.out; clear hN hb hg hat))
      exact ⟨⟨i + 1, true, out ++ [x], rfl, by go_num, by omega, HG', ⟨by have := HLo.out; simp only [List.length_append, List.length_cons, List.length_nil]; omega⟩, HN7, HB7⟩, by simp [intOf]; omega⟩
     | false =>
      have HG' : Aside0 (refGo m tp nv (s.drop (i + 1)) true (out ++ [newS m tp nv] ++ [x]) = r) := ⟨by have h := HGx.out; unfold refGo at h; rw [← hn, if_neg hz, if_pos hpos, if_neg (by decide)] at h; exact h⟩
      clear hn HGx
      go_wp2_with (first
      | (go_at_call 25; with_reducible refine (soundingsref01_Cmp.calls kc B0 d0 x.f0 A5 c5 m n _ (Kd.F_now (Kd.F_below HF0.out HBi.out)) HL0.out (Kd.F_now (Kd.F_below HMF.out HBi.out)) HC5.out HCx.out).mono ?_; rintro e w6 ⟨rfl, hd⟩; have HB6 := Aside0.mk (below_step HBi.out hd.below); have HN6 := Aside0.mk (Kd.N_below HN.out hd.below); replace hx0 := pw_cell_below HB6.out HX0.out; replace hx1 := pw_cell_below HB6.out HX1.out; replace q0 := pw_cell_below HB6.out HQ0.out; replace q1 := pw_cell_below HB6.out HQ1.out; clear hd)
      | ((with_reducible refine gate_builtin (b := .append) (xs := #[.tmp 61, .tmp 66]) rfl ?_); at_builtin; refine Kd.N_append k47 (w0 := W0) W0.heap.size rfl (.tmp 61) (.tmp 66) 22 47 (.agg #[(.slice none 0 0), (.slice none 0 0)]) 48 rfl Tryz.underlying22 info47 rfl (by decide) (by omega) (.slice Ao out.length co) out (newS m tp nv) [.slice A5 m.length c5, .slice (some ⟨w6.heap.size, 0, none⟩) 1 1] (fun _ => True) (fun k => some k ≠ (Value.slice Ao out.length co).ownBlock) rfl ?aX ?aP (fun k hk => ⟨trivial, hk⟩) (fun _ _ => trivial) ?aO ?aB ?aS ?aL ?_; (case aX => first | (go_simp; done) | (go_simp; rfl)); (case aP => exact FK_mk (newS m tp nv) HC5.out (Kd.F_mono (Kd.F_below HMF.out (below_alloc HB6.out _)) (fun k hk => own_far (Kd.N_base HN6.out) hk.2)) (Nat.le_refl 1) (Kd.F_mono (F_newpt w6 tp nv) (fun k hk he => by have := Kd.N_lt HN6.out k he.symm; omega))); (case aO => exact Kd.N_alloc HN6.out _); (case aB => exact below_alloc HB6.out _); (case aS => exact below_size (below_alloc HB6.out _)); (case aL => have := HLo.out; first | omega | (simp only [List.length_append, List.length_cons, List.length_nil]; omega)); intro v8 w8 hN hb hg hat; have HN8 := Aside0.mk hN; have HB8 := Aside0.mk hb; replace hx0 := pw_cell_below HB8.out HX0.out; replace hx1 := pw_cell_below HB8.out HX1.out; replace q0 := pw_cell_below HB8.out HQ0.out; replace q1 := pw_cell_below HB8.out HQ1.out; obtain ⟨o2, ho2⟩ : ∃ o2 : List Ser, o2 = out ++ [newS m tp nv] := ⟨_, rfl⟩; rw [← ho2] at hN HG'; have HN18 := Aside0.mk hN; have HL2 : Aside0 (o2.length = out.length + 1) := ⟨by rw [ho2]; simp⟩; clear HN8 ho2; obtain ⟨Ap, cp, ep⟩ := Kd.N_slice hN; subst ep; clear hN hb hg hat)
      | ((with_reducible refine gate_builtin (b := .append) (xs := #[.tmp 94, .tmp 96]) rfl ?_); at_builtin; refine Kd.N_append k47 (w0 := W0) W0.heap.size rfl (.tmp 94) (.tmp 96) 22 47 (.agg #[(.slice none 0 0), (.slice none 0 0)]) 48 rfl Tryz.underlying22 info47 rfl (by decide) (by omega) (.slice Ap o2.length cp) o2 x [.slice B0 x.f0.length d0, .slice B1 x.f1.length d1] (fun _ => True) (fun k => some k ≠ (Value.slice Ap o2.length cp).ownBlock) rfl ?aX ?aP (fun k hk => ⟨trivial, hk⟩) (fun _ _ => trivial) ?aO ?aB ?aS ?aL ?_; (case aX => first | (go_simp; done) | (go_simp; rfl)); (case aP => exact Kd.FK_mono (Kd.FK_below HFx.out (below_alloc HB8.out _)) (fun k hk => own_far (Kd.N_base HN18.out) (Nat.lt_trans hk HLT.out))); (case aO => exact Kd.N_alloc HN18.out _); (case aB => exact below_alloc HB8.out _); (case aS => exact below_size (below_alloc HB8.out _)); (case aL => have := HLo.out; have := HL2.out; first | omega | (simp only [List.length_append, List.length_cons, List.length_nil]; omega)); intro v9 w9 hN hb hg hat; have HN9 := Aside0.mk hN; have HB9 := Aside0.mk hb; replace hx0 := pw_cell_below HB9.out HX0.out; replace hx1 := pw_cell_below HB9.out HX1.out; replace q0 := pw_cell_below HB9.out HQ0.out; replace q1 := pw_cell_below HB9.out HQ1.out; clear hN hb hg hat))
      exact ⟨⟨i + 1, true, o2 ++ [x], rfl, by go_num, by omega, HG', ⟨by have := HLo.out; have := HL2.out; simp only [List.length_append, List.length_cons, List.length_nil]; omega⟩, HN9, HB9⟩, by simp [intOf]; omega⟩
    ·have HG' : Aside0 (refGo m tp nv (s.drop (i + 1)) put (out ++ [x]) = r) := ⟨by have h := HGx.out; unfold refGo at h; rw [← hn, if_neg hz, if_neg hpos] at h; exact h⟩
     clear hn HGx
     go_wp2_with (first
      | (go_at_call 25; with_reducible refine (soundingsref01_Cmp.calls kc B0 d0 x.f0 A5 c5 m n _ (Kd.F_now (Kd.F_below HF0.out HBi.out)) HL0.out (Kd.F_now (Kd.F_below HMF.out HBi.out)) HC5.out HCx.out).mono ?_; rintro e w6 ⟨rfl, hd⟩; have HB6 := Aside0.mk (below_step HBi.out hd.below); have HN6 := Aside0.mk (Kd.N_below HN.out hd.below); replace hx0 := pw_cell_below HB6.out HX0.out; replace hx1 := pw_cell_below HB6.out HX1.out; replace q0 := pw_cell_below HB6.out HQ0.out; replace q1 := pw_cell_below HB6.out HQ1.out; clear hd)
      | ((with_reducible refine gate_builtin (b := .append) (xs := #[.tmp 94, .tmp 96]) rfl ?_); at_builtin; refine Kd.N_append k47 (w0 := W0) W0.heap.size rfl (.tmp 94) (.tmp 96) 22 47 (.agg #[(.slice none 0 0), (.slice none 0 0)]) 48 rfl Tryz.underlying22 info47 rfl (by decide) (by omega) (.slice Ao out.length co) out x [.slice B0 x.f0.length d0, .slice B1 x.f1.length d1] (fun _ => True) (fun k => some k ≠ (Value.slice Ao out.length co).ownBlock) rfl ?aX ?aP (fun k hk => ⟨trivial, hk⟩) (fun _ _ => trivial) ?aO ?aB ?aS ?aL ?_; (case aX => first | (go_simp; done) | (go_simp; rfl)); (case aP => exact Kd.FK_mono (Kd.FK_below HFx.out (below_alloc HB6.out _)) (fun k hk => own_far (Kd.N_base HN6.out) (Nat.lt_trans hk HLT.out))); (case aO => exact Kd.N_alloc HN6.out _); (case aB => exact below_alloc HB6.out _); (case aS => exact below_size (below_alloc HB6.out _)); (case aL => have := HLo.out; first | omega | (simp only [List.length_append, List.length_cons, List.length_nil]; omega)); intro v7 w7 hN hb hg hat; have HN7 := Aside0.mk hN; have HB7 := Aside0.mk hb; replace hx0 := pw_cell_below HB7.out HX0.out; replace hx1 := pw_cell_below HB7.out HX1.out; replace q0 := pw_cell_below HB7.out HQ0.out; replace q1 := pw_cell_below HB7.out HQ1.out; clear hN hb hg hat))
     exact ⟨⟨i + 1, put, out ++ [x], rfl, by go_num, by omega, HG', ⟨by have := HLo.out; simp only [List.length_append, List.length_cons, List.length_nil]; omega⟩, HN7, HB7⟩, by simp [intOf]; omega⟩
  ·have hG := HG.out
   rw [List.drop_eq_nil_of_le (by omega)] at hG
   unfold refGo at hG
   have hge : (s.length : Int) ≤ (i : Int) := by omega
   have hge2 : ¬ (i : Int) < (s.length : Int) := by omega
   obtain ⟨Ao, co, eo⟩ := Kd.N_slice HN.out
   subst eo
   have q0 := pw_cell_below HBi.out HQ0.out
   have q1 := pw_cell_below HBi.out HQ1.out
   clear HG hlt
   cases put with
   | true =>
    rw [if_pos rfl] at hG
    subst hG
    go_wp2
    go_ret2
    exact ⟨Ao, co, rfl, (Kd.N_reads' HN.out).2.1, (Kd.N_reads' HN.out).2.2, below_step HBX.out HBi.out⟩
   | false =>
    rw [if_neg (by decide)] at hG
    obtain ⟨o2, ho2⟩ : ∃ o2 : List Ser, o2 = out ++ [newS m tp nv] := ⟨_, rfl⟩
    rw [← ho2] at hG
    have HO2 := Aside0.mk ho2
    subst hG
    clear ho2
    go_wp2_with (first
      | ((with_reducible refine gate_builtin (b := .append) (xs := #[.tmp 100, .tmp 105]) rfl ?_); at_builtin; refine Kd.N_append k47 (w0 := W0) W0.heap.size rfl (.tmp 100) (.tmp 105) 22 47 (.agg #[(.slice none 0 0), (.slice none 0 0)]) 48 rfl Tryz.underlying22 info47 rfl (by decide) (by omega) (.slice Ao out.length co) out (newS m tp nv) [.slice A5 m.length c5, .slice (some ⟨wr.heap.size, 0, none⟩) 1 1] (fun _ => True) (fun k => some k ≠ (Value.slice Ao out.length co).ownBlock) rfl ?aX ?aP (fun k hk => ⟨trivial, hk⟩) (fun _ _ => trivial) ?aO ?aB ?aS ?aL ?_; (case aX => first | (go_simp; done) | (go_simp; rfl)); (case aP => exact FK_mk (newS m tp nv) HC5.out (Kd.F_mono (Kd.F_below HMF.out (below_alloc HBi.out _)) (fun k hk => own_far (Kd.N_base HN.out) hk.2)) (Nat.le_refl 1) (Kd.F_mono (F_newpt wr tp nv) (fun k hk he => by have := Kd.N_lt HN.out k he.symm; omega))); (case aO => exact Kd.N_alloc HN.out _); (case aB => exact below_alloc HBi.out _); (case aS => exact below_size (below_alloc HBi.out _)); (case aL => have := HLo.out; first | omega | (simp only [List.length_append, List.length_cons, List.length_nil]; omega)); intro v8 w8 hN hb hg hat; have HN8 := Aside0.mk hN; have HB8 := Aside0.mk hb; rw [← HO2.out] at hN; have HN18 := Aside0.mk hN; clear HN8; obtain ⟨Ap, cp, ep⟩ := Kd.N_slice hN; subst ep; clear hN hb hg hat))
    go_ret2
    exact ⟨Ap, cp, rfl, (Kd.N_reads' HN18.out).2.1, (Kd.N_reads' HN18.out).2.2, below_step HBX.out HB8.out⟩
end Go.Proofs.YtfbockgjhbfidaaGreatDoor.Pr
