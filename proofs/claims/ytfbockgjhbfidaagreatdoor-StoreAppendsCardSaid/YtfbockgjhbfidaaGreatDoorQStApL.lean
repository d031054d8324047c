/- Texts of this session, cut down to what one claim needs and joined: StApL. -/
import Derived.Test.YtfbockgjhbfidaaGreatDoorQStAwake
import Derived.Test.YtfbockgjhbfidaaGreatDoorQGRb
import Derived.Test.YtfbockgjhbfidaaGreatDoorQGPr
set_option linter.unusedVariables false
set_option linter.unusedSimpArgs false
namespace Go.Proofs.YtfbockgjhbfidaaGreatDoor.Pr
open Go.RowKit Go.Proofs.YtfbockgjhbfidaaGreatDoorW.PrintWords Go.Proofs.YtfbockgjhbfidaaGreatDoorW.PrintLast Go.Proofs.YtfbockgjhbfidaaGreatDoorW.PrintMore
attribute [local go_sem] errW_none errW_some

section
variable (A0 : Option Addr) (c0 : Nat) (s : List Ser) (A1 : Option Addr) (c1 : Nat) (l : Lbs) (tp vp : Int) (w : World)
set_option maxHeartbeats 8000000 in
set_option maxRecDepth 100000 in
theorem apps_r1 (hL : LaidAll w) (hr0 : Kd.C k47 w A0 s.length s) (hc0 : s.length ≤ c0) (hr1 : Kd.C k44 w A1 l.length l) (hc1 : l.length ≤ c1) (k5 : Nat)  (h5 : soundingsref05_Short.f k5 s = some false):
  Calls Tryz.prog 3 #[.slice A0 s.length c0, .slice A1 l.length c1, .agg #[.int .i64 tp, .int .u64 vp]] w fun e w' => e = .returned (.bool true) ∧ Below w.heap.size w w' := by
 obtain ⟨w0, hw0⟩ : ∃ w0, w0 = w.alloc (.cells #[.int .i64 tp, .int .u64 vp] 26) := ⟨_, rfl⟩
 have hbw0 : Below w.heap.size w w0 := by rw [hw0]; exact below_alloc (Below.refl _ _) _
 have HP0 : Aside0 (w0.cell? ⟨w.heap.size, 0, none⟩ = some (.int .i64 tp)) := ⟨by rw [hw0]; go_simp⟩
 have HP1 : Aside0 (w0.cell? ⟨w.heap.size, 1, none⟩ = some (.int .u64 vp)) := ⟨by rw [hw0]; go_simp⟩
 have HL := Aside0.mk (hL.below hbw0)
 have HR0 := Aside0.mk (Kd.C_below hr0 hbw0)
 have HR1 := Aside0.mk (Kd.C_below hr1 hbw0)
 have HC0 := Aside0.mk hc0
 have HC1 := Aside0.mk hc1
 have HB0 := Aside0.mk (Below.refl w0.heap.size w0)
 have HBW := Aside0.mk hbw0
 have HW0 := Aside0.mk hw0
 clear hL hr0 hc0 hr1 hc1 hbw0 hw0
 have TK1 : True := trivial
 have H5 := Aside0.mk h5
 clear h5
 go_enter Tryz.func3, Tryz.ntmps3
 go_wp2_with (first
  | (go_at_call 4; rw [← HW0.out]; refine (awake05 _ HL.out).mono ?_; rintro e w1 ⟨rfl, hb⟩; have HB1 := Aside0.mk (below_step HB0.out hb); clear hb)
  | (go_at_call 5; with_reducible refine (soundingsref05_Short.calls _ A0 c0 s false _ (Kd.C_below HR0.out HB1.out) HC0.out H5.out).mono ?_; rintro e w2 ⟨rfl, hd⟩; have HB2 := Aside0.mk (below_step HB1.out hd.below); clear hd))
 go_ret
 exact ⟨rfl, below_step HBW.out HB2.out⟩
set_option maxHeartbeats 8000000 in
set_option maxRecDepth 100000 in
theorem apps_r2 (hL : LaidAll w) (hr0 : Kd.C k47 w A0 s.length s) (hc0 : s.length ≤ c0) (hr1 : Kd.C k44 w A1 l.length l) (hc1 : l.length ≤ c1) (k5 ka : Nat)  (h5 : soundingsref05_Short.f k5 s = some true) (hta : soundingsref01_Short.f ka l = some false):
  Calls Tryz.prog 3 #[.slice A0 s.length c0, .slice A1 l.length c1, .agg #[.int .i64 tp, .int .u64 vp]] w fun e w' => e = .returned (.bool true) ∧ Below w.heap.size w w' := by
 obtain ⟨w0, hw0⟩ : ∃ w0, w0 = w.alloc (.cells #[.int .i64 tp, .int .u64 vp] 26) := ⟨_, rfl⟩
 have hbw0 : Below w.heap.size w w0 := by rw [hw0]; exact below_alloc (Below.refl _ _) _
 have HP0 : Aside0 (w0.cell? ⟨w.heap.size, 0, none⟩ = some (.int .i64 tp)) := ⟨by rw [hw0]; go_simp⟩
 have HP1 : Aside0 (w0.cell? ⟨w.heap.size, 1, none⟩ = some (.int .u64 vp)) := ⟨by rw [hw0]; go_simp⟩
 have HL := Aside0.mk (hL.below hbw0)
 have HR0 := Aside0.mk (Kd.C_below hr0 hbw0)
 have HR1 := Aside0.mk (Kd.C_below hr1 hbw0)
 have HC0 := Aside0.mk hc0
 have HC1 := Aside0.mk hc1
 have HB0 := Aside0.mk (Below.refl w0.heap.size w0)
 have HBW := Aside0.mk hbw0
 have HW0 := Aside0.mk hw0
 clear hL hr0 hc0 hr1 hc1 hbw0 hw0
 have TK1 : True := trivial
 have H5 := Aside0.mk h5
 have HTA := Aside0.mk hta
 clear h5 hta
 go_enter Tryz.func3, Tryz.ntmps3
 go_wp2_with (first
  | (go_at_call 4; rw [← HW0.out]; refine (awake05 _ HL.out).mono ?_; rintro e w1 ⟨rfl, hb⟩; have HB1 := Aside0.mk (below_step HB0.out hb); clear hb)
  | (go_at_call 5; with_reducible refine (soundingsref05_Short.calls _ A0 c0 s true _ (Kd.C_below HR0.out HB1.out) HC0.out H5.out).mono ?_; rintro e w2 ⟨rfl, hd⟩; have HB2 := Aside0.mk (below_step HB1.out hd.below); clear hd)
  | (go_at_call 6; with_reducible refine (soundingsref01_Short.calls _ A1 c1 l false _ (Kd.C_below HR1.out HB2.out) HC1.out HTA.out).mono ?_; rintro e w3 ⟨rfl, hd⟩; have HB3 := Aside0.mk (below_step HB2.out hd.below); clear hd))
 go_ret
 exact ⟨rfl, below_step HBW.out HB3.out⟩
set_option maxHeartbeats 8000000 in
set_option maxRecDepth 100000 in
theorem apps_r3 (hL : LaidAll w) (hr0 : Kd.C k47 w A0 s.length s) (hc0 : s.length ≤ c0) (hr1 : Kd.C k44 w A1 l.length l) (hc1 : l.length ≤ c1) (k5 ka kp kf ks kr kq kx : Nat) (fk : Int) (fo b : Bool) (e1 : Int) (h1 : 0 < e1)  (h5 : soundingsref05_Short.f k5 s = some true) (hta : soundingsref01_Short.f ka l = some true) (hok : okS s) (hsa : smallL l) (hsb : shortB l = true) (hll : l.length ≤ 1000000) (hsr : ∀ x ∈ s, smallR x.f0) (hu : ∀ x ∈ s, ∀ p ∈ x.f1, u64P p.f1) (huv : u64P vp) (hcp : soundingsref05_Copy.f kp s = some s) (hfv : findV s l = (fk, fo)) (hrf : soundingsref05_Find.f kf s l = some (fk, fo)) (hss : soundingsref05_Same.f ks s s = some true) (hrs : store_Right.f kr s = some b) (hrr : soundingsref05_Right.f kq s = some b) (hv : appendV s l tp vp = ([], some e1)) (hsx : soundingsref05_Same.f kx [] [] = some true):
  Calls Tryz.prog 3 #[.slice A0 s.length c0, .slice A1 l.length c1, .agg #[.int .i64 tp, .int .u64 vp]] w fun e w' => e = .returned (.bool true) ∧ Below w.heap.size w w' := by
 obtain ⟨w0, hw0⟩ : ∃ w0, w0 = w.alloc (.cells #[.int .i64 tp, .int .u64 vp] 26) := ⟨_, rfl⟩
 have hbw0 : Below w.heap.size w w0 := by rw [hw0]; exact below_alloc (Below.refl _ _) _
 have HP0 : Aside0 (w0.cell? ⟨w.heap.size, 0, none⟩ = some (.int .i64 tp)) := ⟨by rw [hw0]; go_simp⟩
 have HP1 : Aside0 (w0.cell? ⟨w.heap.size, 1, none⟩ = some (.int .u64 vp)) := ⟨by rw [hw0]; go_simp⟩
 have HL := Aside0.mk (hL.below hbw0)
 have HR0 := Aside0.mk (Kd.C_below hr0 hbw0)
 have HR1 := Aside0.mk (Kd.C_below hr1 hbw0)
 have HC0 := Aside0.mk hc0
 have HC1 := Aside0.mk hc1
 have HB0 := Aside0.mk (Below.refl w0.heap.size w0)
 have HBW := Aside0.mk hbw0
 have HW0 := Aside0.mk hw0
 clear hL hr0 hc0 hr1 hc1 hbw0 hw0
 have TK1 : True := trivial
 have H5 := Aside0.mk h5
 have HTA := Aside0.mk hta
 have HO := Aside0.mk hok
 have HSA := Aside0.mk hsa
 have HSB := Aside0.mk hsb
 have HLL := Aside0.mk hll
 have HSR := Aside0.mk hsr
 have HU := Aside0.mk hu
 have HUV := Aside0.mk huv
 have HCP := Aside0.mk hcp
 have HFV := Aside0.mk hfv
 have HRF := Aside0.mk hrf
 have HSS := Aside0.mk hss
 have HRS := Aside0.mk hrs
 have HRR := Aside0.mk hrr
 have HV := Aside0.mk hv
 have HSX := Aside0.mk hsx
 clear h5 hta hok hsa hsb hll hsr hu huv hcp hfv hrf hss hrs hrr hv hsx
 go_enter Tryz.func3, Tryz.ntmps3
 go_wp2_with (first
  | (go_at_call 4; rw [← HW0.out]; refine (awake05 _ HL.out).mono ?_; rintro e w1 ⟨rfl, hb⟩; have HB1 := Aside0.mk (below_step HB0.out hb); clear hb)
  | (go_at_call 5; with_reducible refine (soundingsref05_Short.calls _ A0 c0 s true _ (Kd.C_below HR0.out HB1.out) HC0.out H5.out).mono ?_; rintro e w2 ⟨rfl, hd⟩; have HB2 := Aside0.mk (below_step HB1.out hd.below); clear hd)
  | (go_at_call 6; with_reducible refine (soundingsref01_Short.calls _ A1 c1 l true _ (Kd.C_below HR1.out HB2.out) HC1.out HTA.out).mono ?_; rintro e w3 ⟨rfl, hd⟩; have HB3 := Aside0.mk (below_step HB2.out hd.below); clear hd)
  | (go_at_call 7; with_reducible refine (soundingsref05_Copy.calls _ A0 c0 s s _ (Kd.C_below HR0.out HB3.out) HC0.out HCP.out).mono ?_; rintro e w4 ⟨v4, rfl, ho, hb⟩; obtain ⟨A4, c4, rfl, hc, hC⟩ := Kd.R_reads (Kd.S_R ho); have HB4 := Aside0.mk (below_step HB3.out hb); have HC4 := Aside0.mk hc; have HR4 := Aside0.mk hC; have p0w4 := pw_cell_below HB4.out HP0.out; have p1w4 := pw_cell_below HB4.out HP1.out; clear hb ho hc hC)
  | (go_at_call 8; refine (append_any A4 c4 s A1 c1 l tp vp _ (HL.out.below HB4.out) HR4.out HC4.out (Kd.C_below HR1.out HB4.out) HC1.out HO.out HSA.out).mono ?_; rw [HV.out]; rintro e w5 ⟨A5, c5, rfl, hc, hC, hb⟩; have HB5 := Aside0.mk (below_step HB4.out hb); have HC5 := Aside0.mk hc; have HR5 := Aside0.mk hC; have HR4b := Aside0.mk (Kd.C_below HR4.out hb); have p0w5 := pw_cell_below HB5.out HP0.out; have p1w5 := pw_cell_below HB5.out HP1.out; clear hb hc hC p0w4 p1w4)
  | (go_at_call 9; refine (refAppend_any A0 c0 s A1 c1 l tp vp _ (Kd.C_below HR0.out HB5.out) HC0.out (Kd.C_below HR1.out HB5.out) HC1.out HO.out HSR.out HU.out HSB.out HUV.out).mono ?_; rw [HV.out]; rintro e w6 ⟨A6, c6, rfl, hc, hC, hb⟩; have HB6 := Aside0.mk (below_step HB5.out hb); have HC6 := Aside0.mk hc; have HR6 := Aside0.mk hC; have HR4c := Aside0.mk (Kd.C_below HR4b.out hb); have HR5b := Aside0.mk (Kd.C_below HR5.out hb); clear hb hc hC p0w5 p1w5)
  | (go_at_call 10; refine (find_any A0 c0 s A1 c1 l _ (HL.out.below HB6.out) (Kd.C_below HR0.out HB6.out) HC0.out (Kd.C_below HR1.out HB6.out) HC1.out HO.out HLL.out).mono ?_; rw [HFV.out]; rintro e w7 ⟨rfl, hb⟩; have HB7 := Aside0.mk (below_step HB6.out hb); have HR4d := Aside0.mk (Kd.C_below HR4c.out hb); have HR5c := Aside0.mk (Kd.C_below HR5b.out hb); have HR6b := Aside0.mk (Kd.C_below HR6.out hb); clear hb)
  | (go_at_call 11; with_reducible refine (soundingsref05_Find.calls _ A0 c0 s A1 c1 l fk fo _ (Kd.C_below HR0.out HB7.out) HC0.out (Kd.C_below HR1.out HB7.out) HC1.out HRF.out).mono ?_; rintro e w8 ⟨rfl, hd⟩; have HB8 := Aside0.mk (below_step HB7.out hd.below); have HR4e := Aside0.mk (Kd.C_below HR4d.out hd.below); have HR5d := Aside0.mk (Kd.C_below HR5c.out hd.below); have HR6c := Aside0.mk (Kd.C_below HR6b.out hd.below); clear hd)
  | (go_at_call 12; refine (code_hit e1 h1 _ (HL.out.below HB8.out).1).mono ?_; rintro e w9 ⟨rfl, hb⟩; have HB9 := Aside0.mk (below_step HB8.out hb); have HR4f := Aside0.mk (Kd.C_below HR4e.out hb); have HR5e := Aside0.mk (Kd.C_below HR5d.out hb); have HR6d := Aside0.mk (Kd.C_below HR6c.out hb); clear hb)
  | (go_at_call 13; clear TK1; have TK2 : True := trivial; refine (soundingsref05_Same.calls _ A5 c5 [] A6 c6 [] true _ HR5e.out HC5.out HR6d.out HC6.out HSX.out).mono ?_; rintro e w10 ⟨rfl, hd⟩; have HB10 := Aside0.mk (below_step HB9.out hd.below); have HR4g := Aside0.mk (Kd.C_below HR4f.out hd.below); have HR5f := Aside0.mk (Kd.C_below HR5e.out hd.below); clear hd)
  | (go_at_call 13; clear TK2; with_reducible refine (soundingsref05_Same.calls _ A4 c4 s A0 c0 s true _ HR4g.out HC4.out (Kd.C_below HR0.out HB10.out) HC0.out HSS.out).mono ?_; rintro e w11 ⟨rfl, hd⟩; have HB11 := Aside0.mk (below_step HB10.out hd.below); have HR5g := Aside0.mk (Kd.C_below HR5f.out hd.below); have TK3 : True := trivial; clear hd)
  | (go_at_call 14; clear TK3; have TK4 : True := trivial; with_reducible refine (store_Right.calls _ A0 c0 s b _ ⟨HL.out.below HB11.out⟩ (Kd.C_below HR0.out HB11.out) HC0.out HRS.out).mono ?_; rintro e w12 ⟨rfl, hb⟩; have HB12 := Aside0.mk (below_step HB11.out hb); have HR5h := Aside0.mk (Kd.C_below HR5g.out hb); clear hb)
  | (go_at_call 15; with_reducible refine (soundingsref05_Right.calls _ A0 c0 s b _ (Kd.C_below HR0.out HB12.out) HC0.out HRR.out).mono ?_; rintro e w13 ⟨rfl, hb⟩; have HB13 := Aside0.mk (below_step HB12.out hb); have HR5i := Aside0.mk (Kd.C_below HR5h.out hb); clear hb))
 go_ret
 exact ⟨rfl, below_step HBW.out HB13.out⟩
set_option maxHeartbeats 8000000 in
set_option maxRecDepth 100000 in
theorem apps_r4 (hL : LaidAll w) (hr0 : Kd.C k47 w A0 s.length s) (hc0 : s.length ≤ c0) (hr1 : Kd.C k44 w A1 l.length l) (hc1 : l.length ≤ c1) (k5 ka kp kf ks kr kq kx : Nat) (fk : Int) (fo b : Bool) (x : List Ser) (ky k8 k9 : Nat) (q : Int) (q1 : wrap64 (q + 1) = q + 1)  (h5 : soundingsref05_Short.f k5 s = some true) (hta : soundingsref01_Short.f ka l = some true) (hok : okS s) (hsa : smallL l) (hsb : shortB l = true) (hll : l.length ≤ 1000000) (hsr : ∀ x ∈ s, smallR x.f0) (hu : ∀ x ∈ s, ∀ p ∈ x.f1, u64P p.f1) (huv : u64P vp) (hcp : soundingsref05_Copy.f kp s = some s) (hfv : findV s l = (fk, fo)) (hrf : soundingsref05_Find.f kf s l = some (fk, fo)) (hss : soundingsref05_Same.f ks s s = some true) (hrs : store_Right.f kr s = some b) (hrr : soundingsref05_Right.f kq s = some b) (hv : appendV s l tp vp = (x, none)) (hsx : soundingsref05_Same.f kx x x = some true) (hrx : store_Right.f ky x = some true) (hmx : store_Many.f k8 x = some (q + 1)) (hms : store_Many.f k9 s = some q):
  Calls Tryz.prog 3 #[.slice A0 s.length c0, .slice A1 l.length c1, .agg #[.int .i64 tp, .int .u64 vp]] w fun e w' => e = .returned (.bool true) ∧ Below w.heap.size w w' := by
 obtain ⟨w0, hw0⟩ : ∃ w0, w0 = w.alloc (.cells #[.int .i64 tp, .int .u64 vp] 26) := ⟨_, rfl⟩
 have hbw0 : Below w.heap.size w w0 := by rw [hw0]; exact below_alloc (Below.refl _ _) _
 have HP0 : Aside0 (w0.cell? ⟨w.heap.size, 0, none⟩ = some (.int .i64 tp)) := ⟨by rw [hw0]; go_simp⟩
 have HP1 : Aside0 (w0.cell? ⟨w.heap.size, 1, none⟩ = some (.int .u64 vp)) := ⟨by rw [hw0]; go_simp⟩
 have HL := Aside0.mk (hL.below hbw0)
 have HR0 := Aside0.mk (Kd.C_below hr0 hbw0)
 have HR1 := Aside0.mk (Kd.C_below hr1 hbw0)
 have HC0 := Aside0.mk hc0
 have HC1 := Aside0.mk hc1
 have HB0 := Aside0.mk (Below.refl w0.heap.size w0)
 have HBW := Aside0.mk hbw0
 have HW0 := Aside0.mk hw0
 clear hL hr0 hc0 hr1 hc1 hbw0 hw0
 have TK1 : True := trivial
 have H5 := Aside0.mk h5
 have HTA := Aside0.mk hta
 have HO := Aside0.mk hok
 have HSA := Aside0.mk hsa
 have HSB := Aside0.mk hsb
 have HLL := Aside0.mk hll
 have HSR := Aside0.mk hsr
 have HU := Aside0.mk hu
 have HUV := Aside0.mk huv
 have HCP := Aside0.mk hcp
 have HFV := Aside0.mk hfv
 have HRF := Aside0.mk hrf
 have HSS := Aside0.mk hss
 have HRS := Aside0.mk hrs
 have HRR := Aside0.mk hrr
 have HV := Aside0.mk hv
 have HSX := Aside0.mk hsx
 have HRX := Aside0.mk hrx
 have HMX := Aside0.mk hmx
 have HMS := Aside0.mk hms
 clear h5 hta hok hsa hsb hll hsr hu huv hcp hfv hrf hss hrs hrr hv hsx hrx hmx hms
 go_enter Tryz.func3, Tryz.ntmps3
 go_wp2_with (first
  | (go_at_call 4; rw [← HW0.out]; refine (awake05 _ HL.out).mono ?_; rintro e w1 ⟨rfl, hb⟩; have HB1 := Aside0.mk (below_step HB0.out hb); clear hb)
  | (go_at_call 5; with_reducible refine (soundingsref05_Short.calls _ A0 c0 s true _ (Kd.C_below HR0.out HB1.out) HC0.out H5.out).mono ?_; rintro e w2 ⟨rfl, hd⟩; have HB2 := Aside0.mk (below_step HB1.out hd.below); clear hd)
  | (go_at_call 6; with_reducible refine (soundingsref01_Short.calls _ A1 c1 l true _ (Kd.C_below HR1.out HB2.out) HC1.out HTA.out).mono ?_; rintro e w3 ⟨rfl, hd⟩; have HB3 := Aside0.mk (below_step HB2.out hd.below); clear hd)
  | (go_at_call 7; with_reducible refine (soundingsref05_Copy.calls _ A0 c0 s s _ (Kd.C_below HR0.out HB3.out) HC0.out HCP.out).mono ?_; rintro e w4 ⟨v4, rfl, ho, hb⟩; obtain ⟨A4, c4, rfl, hc, hC⟩ := Kd.R_reads (Kd.S_R ho); have HB4 := Aside0.mk (below_step HB3.out hb); have HC4 := Aside0.mk hc; have HR4 := Aside0.mk hC; have p0w4 := pw_cell_below HB4.out HP0.out; have p1w4 := pw_cell_below HB4.out HP1.out; clear hb ho hc hC)
  | (go_at_call 8; refine (append_any A4 c4 s A1 c1 l tp vp _ (HL.out.below HB4.out) HR4.out HC4.out (Kd.C_below HR1.out HB4.out) HC1.out HO.out HSA.out).mono ?_; rw [HV.out]; rintro e w5 ⟨A5, c5, rfl, hc, hC, hb⟩; have HB5 := Aside0.mk (below_step HB4.out hb); have HC5 := Aside0.mk hc; have HR5 := Aside0.mk hC; have HR4b := Aside0.mk (Kd.C_below HR4.out hb); have p0w5 := pw_cell_below HB5.out HP0.out; have p1w5 := pw_cell_below HB5.out HP1.out; clear hb hc hC p0w4 p1w4)
  | (go_at_call 9; refine (refAppend_any A0 c0 s A1 c1 l tp vp _ (Kd.C_below HR0.out HB5.out) HC0.out (Kd.C_below HR1.out HB5.out) HC1.out HO.out HSR.out HU.out HSB.out HUV.out).mono ?_; rw [HV.out]; rintro e w6 ⟨A6, c6, rfl, hc, hC, hb⟩; have HB6 := Aside0.mk (below_step HB5.out hb); have HC6 := Aside0.mk hc; have HR6 := Aside0.mk hC; have HR4c := Aside0.mk (Kd.C_below HR4b.out hb); have HR5b := Aside0.mk (Kd.C_below HR5.out hb); clear hb hc hC p0w5 p1w5)
  | (go_at_call 10; refine (find_any A0 c0 s A1 c1 l _ (HL.out.below HB6.out) (Kd.C_below HR0.out HB6.out) HC0.out (Kd.C_below HR1.out HB6.out) HC1.out HO.out HLL.out).mono ?_; rw [HFV.out]; rintro e w7 ⟨rfl, hb⟩; have HB7 := Aside0.mk (below_step HB6.out hb); have HR4d := Aside0.mk (Kd.C_below HR4c.out hb); have HR5c := Aside0.mk (Kd.C_below HR5b.out hb); have HR6b := Aside0.mk (Kd.C_below HR6.out hb); clear hb)
  | (go_at_call 11; with_reducible refine (soundingsref05_Find.calls _ A0 c0 s A1 c1 l fk fo _ (Kd.C_below HR0.out HB7.out) HC0.out (Kd.C_below HR1.out HB7.out) HC1.out HRF.out).mono ?_; rintro e w8 ⟨rfl, hd⟩; have HB8 := Aside0.mk (below_step HB7.out hd.below); have HR4e := Aside0.mk (Kd.C_below HR4d.out hd.below); have HR5d := Aside0.mk (Kd.C_below HR5c.out hd.below); have HR6c := Aside0.mk (Kd.C_below HR6b.out hd.below); clear hd)
  | (go_at_call 12; refine (code_nil _).mono ?_; rintro e w9 ⟨rfl, hb⟩; have HB9 := Aside0.mk (below_step HB8.out hb); have HR4f := Aside0.mk (Kd.C_below HR4e.out hb); have HR5e := Aside0.mk (Kd.C_below HR5d.out hb); have HR6d := Aside0.mk (Kd.C_below HR6c.out hb); clear hb)
  | (go_at_call 13; clear TK1; have TK2 : True := trivial; refine (soundingsref05_Same.calls _ A5 c5 x A6 c6 x true _ HR5e.out HC5.out HR6d.out HC6.out HSX.out).mono ?_; rintro e w10 ⟨rfl, hd⟩; have HB10 := Aside0.mk (below_step HB9.out hd.below); have HR4g := Aside0.mk (Kd.C_below HR4f.out hd.below); have HR5f := Aside0.mk (Kd.C_below HR5e.out hd.below); clear hd)
  | (go_at_call 13; clear TK2; with_reducible refine (soundingsref05_Same.calls _ A4 c4 s A0 c0 s true _ HR4g.out HC4.out (Kd.C_below HR0.out HB10.out) HC0.out HSS.out).mono ?_; rintro e w11 ⟨rfl, hd⟩; have HB11 := Aside0.mk (below_step HB10.out hd.below); have HR5g := Aside0.mk (Kd.C_below HR5f.out hd.below); have TK3 : True := trivial; clear hd)
  | (go_at_call 14; clear TK3; have TK4 : True := trivial; with_reducible refine (store_Right.calls _ A0 c0 s b _ ⟨HL.out.below HB11.out⟩ (Kd.C_below HR0.out HB11.out) HC0.out HRS.out).mono ?_; rintro e w12 ⟨rfl, hb⟩; have HB12 := Aside0.mk (below_step HB11.out hb); have HR5h := Aside0.mk (Kd.C_below HR5g.out hb); clear hb)
  | (go_at_call 15; with_reducible refine (soundingsref05_Right.calls _ A0 c0 s b _ (Kd.C_below HR0.out HB12.out) HC0.out HRR.out).mono ?_; rintro e w13 ⟨rfl, hb⟩; have HB13 := Aside0.mk (below_step HB12.out hb); have HR5i := Aside0.mk (Kd.C_below HR5h.out hb); clear hb)
  | (go_at_call 14; clear TK4; with_reducible refine (store_Right.calls _ A5 c5 x true _ ⟨HL.out.below HB13.out⟩ HR5i.out HC5.out HRX.out).mono ?_; rintro e w14 ⟨rfl, hb⟩; have HB14 := Aside0.mk (below_step HB13.out hb); have HR5j := Aside0.mk (Kd.C_below HR5i.out hb); have TK5 : True := trivial; clear hb)
  | (go_at_call 16; clear TK5; have TK6 : True := trivial; with_reducible refine (store_Many.calls _ A5 c5 x (q + 1) _ HR5j.out HC5.out HMX.out).mono ?_; rintro e w15 ⟨rfl, hb⟩; have HB15 := Aside0.mk (below_step HB14.out hb); clear hb)
  | (go_at_call 16; clear TK6; with_reducible refine (store_Many.calls _ A0 c0 s q _ (Kd.C_below HR0.out HB15.out) HC0.out HMS.out).mono ?_; rintro e w16 ⟨rfl, hb⟩; have HB16 := Aside0.mk (below_step HB15.out hb); clear hb))
 go_ret
 exact ⟨rfl, below_step HBW.out HB16.out⟩
end
end Go.Proofs.YtfbockgjhbfidaaGreatDoor.Pr
