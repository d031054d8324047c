/- Texts of this session, cut down to what one claim needs and joined: StAny. -/
import Derived.Test.YtfbockgjhbfidaaDoorYStAwake
import Derived.Test.YtfbockgjhbfidaaDoorYStPure2
import Derived.Test.YtfbockgjhbfidaaDoorYPrSoundingsref01Make
import Derived.Test.YtfbockgjhbfidaaDoorYGPr
set_option linter.unusedVariables false
set_option linter.unusedSimpArgs false
namespace Go.Proofs.YtfbockgjhbfidaaDoor.Pr
open Go.RowKit Go.Proofs.YtfbockgjhbfidaaDoorW.PrintWords Go.Proofs.YtfbockgjhbfidaaDoorW.PrintLast Go.Proofs.YtfbockgjhbfidaaDoorW.PrintMore
attribute [local go_sem] errW_none errW_some

section
variable (A0 : Option Addr) (c0 : Nat) (s : List Ser) (A1 : Option Addr) (c1 : Nat) (a : Lbs) (tp vp : Int) (A2 : Option Addr) (c2 : Nat) (b : Lbs) (tq vq : Int) (w : World)
set_option maxHeartbeats 8000000 in
set_option maxRecDepth 100000 in
theorem any_r1 (hL : LaidAll w) (hr0 : Kd.C k71 w A0 s.length s) (hc0 : s.length ≤ c0) (hr1 : Kd.C k46 w A1 a.length a) (hc1 : a.length ≤ c1) (hr2 : Kd.C k46 w A2 b.length b) (hc2 : b.length ≤ c2) (k5 : Nat)  (h5 : soundingsref05_Short.f k5 s = some false):
    Calls Tryd.prog 8 #[.slice A0 s.length c0, .slice A1 a.length c1, .agg #[.int .i64 tp, .int .u64 vp], .slice A2 b.length c2, .agg #[.int .i64 tq, .int .u64 vq]] w fun e w' => e = .returned (.bool true) ∧ Below w.heap.size w w' := by
  obtain ⟨w0, hw0⟩ : ∃ w0, w0 = (w.alloc (.cells #[.int .i64 tp, .int .u64 vp] 56)).alloc (.cells #[.int .i64 tq, .int .u64 vq] 56) := ⟨_, rfl⟩
  have hbw0 : Below w.heap.size w w0 := by rw [hw0]; exact below_alloc (below_alloc (Below.refl _ _) _) _
  have HP0 : Aside0 (w0.cell? ⟨w.heap.size, 0, none⟩ = some (.int .i64 tp)) := ⟨by rw [hw0]; go_simp⟩
  have HP1 : Aside0 (w0.cell? ⟨w.heap.size, 1, none⟩ = some (.int .u64 vp)) := ⟨by rw [hw0]; go_simp⟩
  have HQ0 : Aside0 (w0.cell? ⟨w.heap.size + 1, 0, none⟩ = some (.int .i64 tq)) := ⟨by rw [hw0]; go_simp⟩
  have HQ1 : Aside0 (w0.cell? ⟨w.heap.size + 1, 1, none⟩ = some (.int .u64 vq)) := ⟨by rw [hw0]; go_simp⟩
  have HL := Aside0.mk (hL.below hbw0)
  have HR0 := Aside0.mk (Kd.C_below hr0 hbw0)
  have HR1 := Aside0.mk (Kd.C_below hr1 hbw0)
  have HR2 := Aside0.mk (Kd.C_below hr2 hbw0)
  have HC0 := Aside0.mk hc0
  have HC1 := Aside0.mk hc1
  have HC2 := Aside0.mk hc2
  have HB0 := Aside0.mk (Below.refl w0.heap.size w0)
  have HBW := Aside0.mk hbw0
  have HW0 := Aside0.mk hw0
  clear hL hr0 hc0 hr1 hc1 hr2 hc2 hbw0 hw0
  have TK8 : True := trivial
  have H5 := Aside0.mk h5
  clear h5
  go_enter Tryd.func8, Tryd.ntmps8
  go_wp2_with (first
    | (go_at_call 32; rw [← HW0.out]; with_reducible refine (awake05 _ HL.out).mono ?_; rintro e w1 ⟨rfl, hb⟩; have HB1 := Aside0.mk (below_step HB0.out hb); clear hb)
    | (go_at_call 33; with_reducible refine (soundingsref05_Short.calls _ A0 c0 s false _ (Kd.C_below HR0.out HB1.out) HC0.out H5.out).mono ?_; rintro e w2 ⟨rfl, hd⟩; have HB2 := Aside0.mk (below_step HB1.out hd.below); clear hd))
  go_ret
  exact ⟨rfl, below_step HBW.out HB2.out⟩
set_option maxHeartbeats 8000000 in
set_option maxRecDepth 100000 in
theorem any_r2 (hL : LaidAll w) (hr0 : Kd.C k71 w A0 s.length s) (hc0 : s.length ≤ c0) (hr1 : Kd.C k46 w A1 a.length a) (hc1 : a.length ≤ c1) (hr2 : Kd.C k46 w A2 b.length b) (hc2 : b.length ≤ c2) (k5 ka : Nat)  (h5 : soundingsref05_Short.f k5 s = some true) (hta : soundingsref01_Short.f ka a = some false):
    Calls Tryd.prog 8 #[.slice A0 s.length c0, .slice A1 a.length c1, .agg #[.int .i64 tp, .int .u64 vp], .slice A2 b.length c2, .agg #[.int .i64 tq, .int .u64 vq]] w fun e w' => e = .returned (.bool true) ∧ Below w.heap.size w w' := by
  obtain ⟨w0, hw0⟩ : ∃ w0, w0 = (w.alloc (.cells #[.int .i64 tp, .int .u64 vp] 56)).alloc (.cells #[.int .i64 tq, .int .u64 vq] 56) := ⟨_, rfl⟩
  have hbw0 : Below w.heap.size w w0 := by rw [hw0]; exact below_alloc (below_alloc (Below.refl _ _) _) _
  have HP0 : Aside0 (w0.cell? ⟨w.heap.size, 0, none⟩ = some (.int .i64 tp)) := ⟨by rw [hw0]; go_simp⟩
  have HP1 : Aside0 (w0.cell? ⟨w.heap.size, 1, none⟩ = some (.int .u64 vp)) := ⟨by rw [hw0]; go_simp⟩
  have HQ0 : Aside0 (w0.cell? ⟨w.heap.size + 1, 0, none⟩ = some (.int .i64 tq)) := ⟨by rw [hw0]; go_simp⟩
  have HQ1 : Aside0 (w0.cell? ⟨w.heap.size + 1, 1, none⟩ = some (.int .u64 vq)) := ⟨by rw [hw0]; go_simp⟩
  have HL := Aside0.mk (hL.below hbw0)
  have HR0 := Aside0.mk (Kd.C_below hr0 hbw0)
  have HR1 := Aside0.mk (Kd.C_below hr1 hbw0)
  have HR2 := Aside0.mk (Kd.C_below hr2 hbw0)
  have HC0 := Aside0.mk hc0
  have HC1 := Aside0.mk hc1
  have HC2 := Aside0.mk hc2
  have HB0 := Aside0.mk (Below.refl w0.heap.size w0)
  have HBW := Aside0.mk hbw0
  have HW0 := Aside0.mk hw0
  clear hL hr0 hc0 hr1 hc1 hr2 hc2 hbw0 hw0
  have TK8 : True := trivial
  have H5 := Aside0.mk h5
  have HTA := Aside0.mk hta
  clear h5 hta
  go_enter Tryd.func8, Tryd.ntmps8
  go_wp2_with (first
    | (go_at_call 32; rw [← HW0.out]; with_reducible refine (awake05 _ HL.out).mono ?_; rintro e w1 ⟨rfl, hb⟩; have HB1 := Aside0.mk (below_step HB0.out hb); clear hb)
    | (go_at_call 33; with_reducible refine (soundingsref05_Short.calls _ A0 c0 s true _ (Kd.C_below HR0.out HB1.out) HC0.out H5.out).mono ?_; rintro e w2 ⟨rfl, hd⟩; have HB2 := Aside0.mk (below_step HB1.out hd.below); clear hd)
    | (go_at_call 18; with_reducible refine (soundingsref01_Short.calls _ A1 c1 a false _ (Kd.C_below HR1.out HB2.out) HC1.out HTA.out).mono ?_; rintro e w3 ⟨rfl, hd⟩; have HB3 := Aside0.mk (below_step HB2.out hd.below); clear hd))
  go_ret
  exact ⟨rfl, below_step HBW.out HB3.out⟩
set_option maxHeartbeats 8000000 in
set_option maxRecDepth 100000 in
theorem any_r3 (hL : LaidAll w) (hr0 : Kd.C k71 w A0 s.length s) (hc0 : s.length ≤ c0) (hr1 : Kd.C k46 w A1 a.length a) (hc1 : a.length ≤ c1) (hr2 : Kd.C k46 w A2 b.length b) (hc2 : b.length ≤ c2) (k5 ka kb : Nat)  (h5 : soundingsref05_Short.f k5 s = some true) (hta : soundingsref01_Short.f ka a = some true) (htb : soundingsref01_Short.f kb b = some false):
    Calls Tryd.prog 8 #[.slice A0 s.length c0, .slice A1 a.length c1, .agg #[.int .i64 tp, .int .u64 vp], .slice A2 b.length c2, .agg #[.int .i64 tq, .int .u64 vq]] w fun e w' => e = .returned (.bool true) ∧ Below w.heap.size w w' := by
  obtain ⟨w0, hw0⟩ : ∃ w0, w0 = (w.alloc (.cells #[.int .i64 tp, .int .u64 vp] 56)).alloc (.cells #[.int .i64 tq, .int .u64 vq] 56) := ⟨_, rfl⟩
  have hbw0 : Below w.heap.size w w0 := by rw [hw0]; exact below_alloc (below_alloc (Below.refl _ _) _) _
  have HP0 : Aside0 (w0.cell? ⟨w.heap.size, 0, none⟩ = some (.int .i64 tp)) := ⟨by rw [hw0]; go_simp⟩
  have HP1 : Aside0 (w0.cell? ⟨w.heap.size, 1, none⟩ = some (.int .u64 vp)) := ⟨by rw [hw0]; go_simp⟩
  have HQ0 : Aside0 (w0.cell? ⟨w.heap.size + 1, 0, none⟩ = some (.int .i64 tq)) := ⟨by rw [hw0]; go_simp⟩
  have HQ1 : Aside0 (w0.cell? ⟨w.heap.size + 1, 1, none⟩ = some (.int .u64 vq)) := ⟨by rw [hw0]; go_simp⟩
  have HL := Aside0.mk (hL.below hbw0)
  have HR0 := Aside0.mk (Kd.C_below hr0 hbw0)
  have HR1 := Aside0.mk (Kd.C_below hr1 hbw0)
  have HR2 := Aside0.mk (Kd.C_below hr2 hbw0)
  have HC0 := Aside0.mk hc0
  have HC1 := Aside0.mk hc1
  have HC2 := Aside0.mk hc2
  have HB0 := Aside0.mk (Below.refl w0.heap.size w0)
  have HBW := Aside0.mk hbw0
  have HW0 := Aside0.mk hw0
  clear hL hr0 hc0 hr1 hc1 hr2 hc2 hbw0 hw0
  have TK8 : True := trivial
  have H5 := Aside0.mk h5
  have HTA := Aside0.mk hta
  have HTB := Aside0.mk htb
  clear h5 hta htb
  go_enter Tryd.func8, Tryd.ntmps8
  go_wp2_with (first
    | (go_at_call 32; rw [← HW0.out]; with_reducible refine (awake05 _ HL.out).mono ?_; rintro e w1 ⟨rfl, hb⟩; have HB1 := Aside0.mk (below_step HB0.out hb); clear hb)
    | (go_at_call 33; with_reducible refine (soundingsref05_Short.calls _ A0 c0 s true _ (Kd.C_below HR0.out HB1.out) HC0.out H5.out).mono ?_; rintro e w2 ⟨rfl, hd⟩; have HB2 := Aside0.mk (below_step HB1.out hd.below); clear hd)
    | (go_at_call 18; with_reducible refine (soundingsref01_Short.calls _ A1 c1 a true _ (Kd.C_below HR1.out HB2.out) HC1.out HTA.out).mono ?_; rintro e w3 ⟨rfl, hd⟩; have HB3 := Aside0.mk (below_step HB2.out hd.below); clear hd)
    | (go_at_call 18; with_reducible refine (soundingsref01_Short.calls _ A2 c2 b false _ (Kd.C_below HR2.out HB3.out) HC2.out HTB.out).mono ?_; rintro e w4 ⟨rfl, hd⟩; have HB4 := Aside0.mk (below_step HB3.out hd.below); clear hd))
  go_ret
  exact ⟨rfl, below_step HBW.out HB4.out⟩
set_option maxHeartbeats 8000000 in
set_option maxRecDepth 100000 in
theorem any_r4 (hL : LaidAll w) (hr0 : Kd.C k71 w A0 s.length s) (hc0 : s.length ≤ c0) (hr1 : Kd.C k46 w A1 a.length a) (hc1 : a.length ≤ c1) (hr2 : Kd.C k46 w A2 b.length b) (hc2 : b.length ≤ c2) (k5 ka kb km : Nat) (x y : Lbs) (u : Bool)  (h5 : soundingsref05_Short.f k5 s = some true) (hta : soundingsref01_Short.f ka a = some true) (htb : soundingsref01_Short.f kb b = some true) (hma : soundingsref01_Make.f km a = some (x, false)) (hmb : soundingsref01_Make.f km b = some (y, u)):
    Calls Tryd.prog 8 #[.slice A0 s.length c0, .slice A1 a.length c1, .agg #[.int .i64 tp, .int .u64 vp], .slice A2 b.length c2, .agg #[.int .i64 tq, .int .u64 vq]] w fun e w' => e = .returned (.bool true) ∧ Below w.heap.size w w' := by
  obtain ⟨w0, hw0⟩ : ∃ w0, w0 = (w.alloc (.cells #[.int .i64 tp, .int .u64 vp] 56)).alloc (.cells #[.int .i64 tq, .int .u64 vq] 56) := ⟨_, rfl⟩
  have hbw0 : Below w.heap.size w w0 := by rw [hw0]; exact below_alloc (below_alloc (Below.refl _ _) _) _
  have HP0 : Aside0 (w0.cell? ⟨w.heap.size, 0, none⟩ = some (.int .i64 tp)) := ⟨by rw [hw0]; go_simp⟩
  have HP1 : Aside0 (w0.cell? ⟨w.heap.size, 1, none⟩ = some (.int .u64 vp)) := ⟨by rw [hw0]; go_simp⟩
  have HQ0 : Aside0 (w0.cell? ⟨w.heap.size + 1, 0, none⟩ = some (.int .i64 tq)) := ⟨by rw [hw0]; go_simp⟩
  have HQ1 : Aside0 (w0.cell? ⟨w.heap.size + 1, 1, none⟩ = some (.int .u64 vq)) := ⟨by rw [hw0]; go_simp⟩
  have HL := Aside0.mk (hL.below hbw0)
  have HR0 := Aside0.mk (Kd.C_below hr0 hbw0)
  have HR1 := Aside0.mk (Kd.C_below hr1 hbw0)
  have HR2 := Aside0.mk (Kd.C_below hr2 hbw0)
  have HC0 := Aside0.mk hc0
  have HC1 := Aside0.mk hc1
  have HC2 := Aside0.mk hc2
  have HB0 := Aside0.mk (Below.refl w0.heap.size w0)
  have HBW := Aside0.mk hbw0
  have HW0 := Aside0.mk hw0
  clear hL hr0 hc0 hr1 hc1 hr2 hc2 hbw0 hw0
  have TK8 : True := trivial
  have H5 := Aside0.mk h5
  have HTA := Aside0.mk hta
  have HTB := Aside0.mk htb
  have HMA := Aside0.mk hma
  have HMB := Aside0.mk hmb
  clear h5 hta htb hma hmb
  go_enter Tryd.func8, Tryd.ntmps8
  go_wp2_with (first
    | (go_at_call 32; rw [← HW0.out]; with_reducible refine (awake05 _ HL.out).mono ?_; rintro e w1 ⟨rfl, hb⟩; have HB1 := Aside0.mk (below_step HB0.out hb); clear hb)
    | (go_at_call 33; with_reducible refine (soundingsref05_Short.calls _ A0 c0 s true _ (Kd.C_below HR0.out HB1.out) HC0.out H5.out).mono ?_; rintro e w2 ⟨rfl, hd⟩; have HB2 := Aside0.mk (below_step HB1.out hd.below); clear hd)
    | (go_at_call 18; with_reducible refine (soundingsref01_Short.calls _ A1 c1 a true _ (Kd.C_below HR1.out HB2.out) HC1.out HTA.out).mono ?_; rintro e w3 ⟨rfl, hd⟩; have HB3 := Aside0.mk (below_step HB2.out hd.below); clear hd)
    | (go_at_call 18; with_reducible refine (soundingsref01_Short.calls _ A2 c2 b true _ (Kd.C_below HR2.out HB3.out) HC2.out HTB.out).mono ?_; rintro e w4 ⟨rfl, hd⟩; have HB4 := Aside0.mk (below_step HB3.out hd.below); clear hd)
    | (go_at_call 20; with_reducible refine (soundingsref01_Make.calls _ A1 c1 a x false _ (Kd.C_below HR1.out HB4.out) HC1.out HMA.out).mono ?_; rintro e w5 ⟨v5, rfl, ho, hb⟩; obtain ⟨A5, c5, rfl, hc, hC⟩ := Kd.R_reads ho; have HB5 := Aside0.mk (below_step HB4.out hb); have HC5 := Aside0.mk hc; have HR5 := Aside0.mk hC; clear hb ho hc hC)
    | (go_at_call 20; with_reducible refine (soundingsref01_Make.calls _ A2 c2 b y u _ (Kd.C_below HR2.out HB5.out) HC2.out HMB.out).mono ?_; rintro e w6 ⟨v6, rfl, ho, hb⟩; obtain ⟨A6, c6, rfl, hc, hC⟩ := Kd.R_reads ho; have HB6 := Aside0.mk (below_step HB5.out hb); have HC6 := Aside0.mk hc; have HR6 := Aside0.mk hC; have HR5b := Aside0.mk (Kd.C_below HR5.out hb); clear hb ho hc hC))
  go_ret
  exact ⟨rfl, below_step HBW.out HB6.out⟩
set_option maxHeartbeats 8000000 in
set_option maxRecDepth 100000 in
theorem any_r5 (hL : LaidAll w) (hr0 : Kd.C k71 w A0 s.length s) (hc0 : s.length ≤ c0) (hr1 : Kd.C k46 w A1 a.length a) (hc1 : a.length ≤ c1) (hr2 : Kd.C k46 w A2 b.length b) (hc2 : b.length ≤ c2) (k5 ka kb km : Nat) (x y : Lbs)  (h5 : soundingsref05_Short.f k5 s = some true) (hta : soundingsref01_Short.f ka a = some true) (htb : soundingsref01_Short.f kb b = some true) (hma : soundingsref01_Make.f km a = some (x, true)) (hmb : soundingsref01_Make.f km b = some (y, false)):
    Calls Tryd.prog 8 #[.slice A0 s.length c0, .slice A1 a.length c1, .agg #[.int .i64 tp, .int .u64 vp], .slice A2 b.length c2, .agg #[.int .i64 tq, .int .u64 vq]] w fun e w' => e = .returned (.bool true) ∧ Below w.heap.size w w' := by
  obtain ⟨w0, hw0⟩ : ∃ w0, w0 = (w.alloc (.cells #[.int .i64 tp, .int .u64 vp] 56)).alloc (.cells #[.int .i64 tq, .int .u64 vq] 56) := ⟨_, rfl⟩
  have hbw0 : Below w.heap.size w w0 := by rw [hw0]; exact below_alloc (below_alloc (Below.refl _ _) _) _
  have HP0 : Aside0 (w0.cell? ⟨w.heap.size, 0, none⟩ = some (.int .i64 tp)) := ⟨by rw [hw0]; go_simp⟩
  have HP1 : Aside0 (w0.cell? ⟨w.heap.size, 1, none⟩ = some (.int .u64 vp)) := ⟨by rw [hw0]; go_simp⟩
  have HQ0 : Aside0 (w0.cell? ⟨w.heap.size + 1, 0, none⟩ = some (.int .i64 tq)) := ⟨by rw [hw0]; go_simp⟩
  have HQ1 : Aside0 (w0.cell? ⟨w.heap.size + 1, 1, none⟩ = some (.int .u64 vq)) := ⟨by rw [hw0]; go_simp⟩
  have HL := Aside0.mk (hL.below hbw0)
  have HR0 := Aside0.mk (Kd.C_below hr0 hbw0)
  have HR1 := Aside0.mk (Kd.C_below hr1 hbw0)
  have HR2 := Aside0.mk (Kd.C_below hr2 hbw0)
  have HC0 := Aside0.mk hc0
  have HC1 := Aside0.mk hc1
  have HC2 := Aside0.mk hc2
  have HB0 := Aside0.mk (Below.refl w0.heap.size w0)
  have HBW := Aside0.mk hbw0
  have HW0 := Aside0.mk hw0
  clear hL hr0 hc0 hr1 hc1 hr2 hc2 hbw0 hw0
  have TK8 : True := trivial
  have H5 := Aside0.mk h5
  have HTA := Aside0.mk hta
  have HTB := Aside0.mk htb
  have HMA := Aside0.mk hma
  have HMB := Aside0.mk hmb
  clear h5 hta htb hma hmb
  go_enter Tryd.func8, Tryd.ntmps8
  go_wp2_with (first
    | (go_at_call 32; rw [← HW0.out]; with_reducible refine (awake05 _ HL.out).mono ?_; rintro e w1 ⟨rfl, hb⟩; have HB1 := Aside0.mk (below_step HB0.out hb); clear hb)
    | (go_at_call 33; with_reducible refine (soundingsref05_Short.calls _ A0 c0 s true _ (Kd.C_below HR0.out HB1.out) HC0.out H5.out).mono ?_; rintro e w2 ⟨rfl, hd⟩; have HB2 := Aside0.mk (below_step HB1.out hd.below); clear hd)
    | (go_at_call 18; with_reducible refine (soundingsref01_Short.calls _ A1 c1 a true _ (Kd.C_below HR1.out HB2.out) HC1.out HTA.out).mono ?_; rintro e w3 ⟨rfl, hd⟩; have HB3 := Aside0.mk (below_step HB2.out hd.below); clear hd)
    | (go_at_call 18; with_reducible refine (soundingsref01_Short.calls _ A2 c2 b true _ (Kd.C_below HR2.out HB3.out) HC2.out HTB.out).mono ?_; rintro e w4 ⟨rfl, hd⟩; have HB4 := Aside0.mk (below_step HB3.out hd.below); clear hd)
    | (go_at_call 20; with_reducible refine (soundingsref01_Make.calls _ A1 c1 a x true _ (Kd.C_below HR1.out HB4.out) HC1.out HMA.out).mono ?_; rintro e w5 ⟨v5, rfl, ho, hb⟩; obtain ⟨A5, c5, rfl, hc, hC⟩ := Kd.R_reads ho; have HB5 := Aside0.mk (below_step HB4.out hb); have HC5 := Aside0.mk hc; have HR5 := Aside0.mk hC; clear hb ho hc hC)
    | (go_at_call 20; with_reducible refine (soundingsref01_Make.calls _ A2 c2 b y false _ (Kd.C_below HR2.out HB5.out) HC2.out HMB.out).mono ?_; rintro e w6 ⟨v6, rfl, ho, hb⟩; obtain ⟨A6, c6, rfl, hc, hC⟩ := Kd.R_reads ho; have HB6 := Aside0.mk (below_step HB5.out hb); have HC6 := Aside0.mk hc; have HR6 := Aside0.mk hC; have HR5b := Aside0.mk (Kd.C_below HR5.out hb); clear hb ho hc hC))
  go_ret
  exact ⟨rfl, below_step HBW.out HB6.out⟩
set_option maxHeartbeats 8000000 in
set_option maxRecDepth 100000 in
theorem any_r6 (hL : LaidAll w) (hr0 : Kd.C k71 w A0 s.length s) (hc0 : s.length ≤ c0) (hr1 : Kd.C k46 w A1 a.length a) (hc1 : a.length ≤ c1) (hr2 : Kd.C k46 w A2 b.length b) (hc2 : b.length ≤ c2) (k5 ka kb km : Nat) (x y : Lbs) (kz : Nat)  (h5 : soundingsref05_Short.f k5 s = some true) (hta : soundingsref01_Short.f ka a = some true) (htb : soundingsref01_Short.f kb b = some true) (hma : soundingsref01_Make.f km a = some (x, true)) (hmb : soundingsref01_Make.f km b = some (y, true)) (hz : soundingsref01_Cmp.f kz x y = some 0):
    Calls Tryd.prog 8 #[.slice A0 s.length c0, .slice A1 a.length c1, .agg #[.int .i64 tp, .int .u64 vp], .slice A2 b.length c2, .agg #[.int .i64 tq, .int .u64 vq]] w fun e w' => e = .returned (.bool true) ∧ Below w.heap.size w w' := by
  obtain ⟨w0, hw0⟩ : ∃ w0, w0 = (w.alloc (.cells #[.int .i64 tp, .int .u64 vp] 56)).alloc (.cells #[.int .i64 tq, .int .u64 vq] 56) := ⟨_, rfl⟩
  have hbw0 : Below w.heap.size w w0 := by rw [hw0]; exact below_alloc (below_alloc (Below.refl _ _) _) _
  have HP0 : Aside0 (w0.cell? ⟨w.heap.size, 0, none⟩ = some (.int .i64 tp)) := ⟨by rw [hw0]; go_simp⟩
  have HP1 : Aside0 (w0.cell? ⟨w.heap.size, 1, none⟩ = some (.int .u64 vp)) := ⟨by rw [hw0]; go_simp⟩
  have HQ0 : Aside0 (w0.cell? ⟨w.heap.size + 1, 0, none⟩ = some (.int .i64 tq)) := ⟨by rw [hw0]; go_simp⟩
  have HQ1 : Aside0 (w0.cell? ⟨w.heap.size + 1, 1, none⟩ = some (.int .u64 vq)) := ⟨by rw [hw0]; go_simp⟩
  have HL := Aside0.mk (hL.below hbw0)
  have HR0 := Aside0.mk (Kd.C_below hr0 hbw0)
  have HR1 := Aside0.mk (Kd.C_below hr1 hbw0)
  have HR2 := Aside0.mk (Kd.C_below hr2 hbw0)
  have HC0 := Aside0.mk hc0
  have HC1 := Aside0.mk hc1
  have HC2 := Aside0.mk hc2
  have HB0 := Aside0.mk (Below.refl w0.heap.size w0)
  have HBW := Aside0.mk hbw0
  have HW0 := Aside0.mk hw0
  clear hL hr0 hc0 hr1 hc1 hr2 hc2 hbw0 hw0
  have TK8 : True := trivial
  have H5 := Aside0.mk h5
  have HTA := Aside0.mk hta
  have HTB := Aside0.mk htb
  have HMA := Aside0.mk hma
  have HMB := Aside0.mk hmb
  have HZ := Aside0.mk hz
  clear h5 hta htb hma hmb hz
  go_enter Tryd.func8, Tryd.ntmps8
  go_wp2_with (first
    | (go_at_call 32; rw [← HW0.out]; with_reducible refine (awake05 _ HL.out).mono ?_; rintro e w1 ⟨rfl, hb⟩; have HB1 := Aside0.mk (below_step HB0.out hb); clear hb)
    | (go_at_call 33; with_reducible refine (soundingsref05_Short.calls _ A0 c0 s true _ (Kd.C_below HR0.out HB1.out) HC0.out H5.out).mono ?_; rintro e w2 ⟨rfl, hd⟩; have HB2 := Aside0.mk (below_step HB1.out hd.below); clear hd)
    | (go_at_call 18; with_reducible refine (soundingsref01_Short.calls _ A1 c1 a true _ (Kd.C_below HR1.out HB2.out) HC1.out HTA.out).mono ?_; rintro e w3 ⟨rfl, hd⟩; have HB3 := Aside0.mk (below_step HB2.out hd.below); clear hd)
    | (go_at_call 18; with_reducible refine (soundingsref01_Short.calls _ A2 c2 b true _ (Kd.C_below HR2.out HB3.out) HC2.out HTB.out).mono ?_; rintro e w4 ⟨rfl, hd⟩; have HB4 := Aside0.mk (below_step HB3.out hd.below); clear hd)
    | (go_at_call 20; with_reducible refine (soundingsref01_Make.calls _ A1 c1 a x true _ (Kd.C_below HR1.out HB4.out) HC1.out HMA.out).mono ?_; rintro e w5 ⟨v5, rfl, ho, hb⟩; obtain ⟨A5, c5, rfl, hc, hC⟩ := Kd.R_reads ho; have HB5 := Aside0.mk (below_step HB4.out hb); have HC5 := Aside0.mk hc; have HR5 := Aside0.mk hC; clear hb ho hc hC)
    | (go_at_call 20; with_reducible refine (soundingsref01_Make.calls _ A2 c2 b y true _ (Kd.C_below HR2.out HB5.out) HC2.out HMB.out).mono ?_; rintro e w6 ⟨v6, rfl, ho, hb⟩; obtain ⟨A6, c6, rfl, hc, hC⟩ := Kd.R_reads ho; have HB6 := Aside0.mk (below_step HB5.out hb); have HC6 := Aside0.mk hc; have HR6 := Aside0.mk hC; have HR5b := Aside0.mk (Kd.C_below HR5.out hb); clear hb ho hc hC)
    | (go_at_call 25; with_reducible refine (soundingsref01_Cmp.calls _ A5 c5 x A6 c6 y 0 _ HR5b.out HC5.out HR6.out HC6.out HZ.out).mono ?_; rintro e w7 ⟨rfl, hd⟩; have HB7 := Aside0.mk (below_step HB6.out hd.below); have p0w7 := pw_cell_below HB7.out HP0.out; have p1w7 := pw_cell_below HB7.out HP1.out; have p2w7 := pw_cell_below HB7.out HQ0.out; have p3w7 := pw_cell_below HB7.out HQ1.out; clear hd))
  go_ret
  exact ⟨rfl, below_step HBW.out HB7.out⟩
set_option maxHeartbeats 8000000 in
set_option maxRecDepth 100000 in
theorem any_r7 (hL : LaidAll w) (hr0 : Kd.C k71 w A0 s.length s) (hc0 : s.length ≤ c0) (hr1 : Kd.C k46 w A1 a.length a) (hc1 : a.length ≤ c1) (hr2 : Kd.C k46 w A2 b.length b) (hc2 : b.length ≤ c2) (k5 ka kb km : Nat) (x y : Lbs) (kz : Nat) (z : Int) (z0 : ¬ z = 0) (z1 : (z == 0) = false) (e1 e2 : Int)  (h5 : soundingsref05_Short.f k5 s = some true) (hta : soundingsref01_Short.f ka a = some true) (htb : soundingsref01_Short.f kb b = some true) (hma : soundingsref01_Make.f km a = some (x, true)) (hmb : soundingsref01_Make.f km b = some (y, true)) (hz : soundingsref01_Cmp.f kz x y = some z) (hok : okS s) (hsa : smallL a) (hsb : smallL b) (hv1 : appendV s a tp vp = ([], some e1)) (hv2 : appendV s b tq vq = ([], some e2)):
    Calls Tryd.prog 8 #[.slice A0 s.length c0, .slice A1 a.length c1, .agg #[.int .i64 tp, .int .u64 vp], .slice A2 b.length c2, .agg #[.int .i64 tq, .int .u64 vq]] w fun e w' => e = .returned (.bool true) ∧ Below w.heap.size w w' := by
  obtain ⟨w0, hw0⟩ : ∃ w0, w0 = (w.alloc (.cells #[.int .i64 tp, .int .u64 vp] 56)).alloc (.cells #[.int .i64 tq, .int .u64 vq] 56) := ⟨_, rfl⟩
  have hbw0 : Below w.heap.size w w0 := by rw [hw0]; exact below_alloc (below_alloc (Below.refl _ _) _) _
  have HP0 : Aside0 (w0.cell? ⟨w.heap.size, 0, none⟩ = some (.int .i64 tp)) := ⟨by rw [hw0]; go_simp⟩
  have HP1 : Aside0 (w0.cell? ⟨w.heap.size, 1, none⟩ = some (.int .u64 vp)) := ⟨by rw [hw0]; go_simp⟩
  have HQ0 : Aside0 (w0.cell? ⟨w.heap.size + 1, 0, none⟩ = some (.int .i64 tq)) := ⟨by rw [hw0]; go_simp⟩
  have HQ1 : Aside0 (w0.cell? ⟨w.heap.size + 1, 1, none⟩ = some (.int .u64 vq)) := ⟨by rw [hw0]; go_simp⟩
  have HL := Aside0.mk (hL.below hbw0)
  have HR0 := Aside0.mk (Kd.C_below hr0 hbw0)
  have HR1 := Aside0.mk (Kd.C_below hr1 hbw0)
  have HR2 := Aside0.mk (Kd.C_below hr2 hbw0)
  have HC0 := Aside0.mk hc0
  have HC1 := Aside0.mk hc1
  have HC2 := Aside0.mk hc2
  have HB0 := Aside0.mk (Below.refl w0.heap.size w0)
  have HBW := Aside0.mk hbw0
  have HW0 := Aside0.mk hw0
  clear hL hr0 hc0 hr1 hc1 hr2 hc2 hbw0 hw0
  have TK8 : True := trivial
  have H5 := Aside0.mk h5
  have HTA := Aside0.mk hta
  have HTB := Aside0.mk htb
  have HMA := Aside0.mk hma
  have HMB := Aside0.mk hmb
  have HZ := Aside0.mk hz
  have HO := Aside0.mk hok
  have HSA := Aside0.mk hsa
  have HSB := Aside0.mk hsb
  have HV1 := Aside0.mk hv1
  have HV2 := Aside0.mk hv2
  clear h5 hta htb hma hmb hz hok hsa hsb hv1 hv2
  go_enter Tryd.func8, Tryd.ntmps8
  go_wp2_with (first
    | (go_at_call 32; rw [← HW0.out]; with_reducible refine (awake05 _ HL.out).mono ?_; rintro e w1 ⟨rfl, hb⟩; have HB1 := Aside0.mk (below_step HB0.out hb); clear hb)
    | (go_at_call 33; with_reducible refine (soundingsref05_Short.calls _ A0 c0 s true _ (Kd.C_below HR0.out HB1.out) HC0.out H5.out).mono ?_; rintro e w2 ⟨rfl, hd⟩; have HB2 := Aside0.mk (below_step HB1.out hd.below); clear hd)
    | (go_at_call 18; with_reducible refine (soundingsref01_Short.calls _ A1 c1 a true _ (Kd.C_below HR1.out HB2.out) HC1.out HTA.out).mono ?_; rintro e w3 ⟨rfl, hd⟩; have HB3 := Aside0.mk (below_step HB2.out hd.below); clear hd)
    | (go_at_call 18; with_reducible refine (soundingsref01_Short.calls _ A2 c2 b true _ (Kd.C_below HR2.out HB3.out) HC2.out HTB.out).mono ?_; rintro e w4 ⟨rfl, hd⟩; have HB4 := Aside0.mk (below_step HB3.out hd.below); clear hd)
    | (go_at_call 20; with_reducible refine (soundingsref01_Make.calls _ A1 c1 a x true _ (Kd.C_below HR1.out HB4.out) HC1.out HMA.out).mono ?_; rintro e w5 ⟨v5, rfl, ho, hb⟩; obtain ⟨A5, c5, rfl, hc, hC⟩ := Kd.R_reads ho; have HB5 := Aside0.mk (below_step HB4.out hb); have HC5 := Aside0.mk hc; have HR5 := Aside0.mk hC; clear hb ho hc hC)
    | (go_at_call 20; with_reducible refine (soundingsref01_Make.calls _ A2 c2 b y true _ (Kd.C_below HR2.out HB5.out) HC2.out HMB.out).mono ?_; rintro e w6 ⟨v6, rfl, ho, hb⟩; obtain ⟨A6, c6, rfl, hc, hC⟩ := Kd.R_reads ho; have HB6 := Aside0.mk (below_step HB5.out hb); have HC6 := Aside0.mk hc; have HR6 := Aside0.mk hC; have HR5b := Aside0.mk (Kd.C_below HR5.out hb); clear hb ho hc hC)
    | (go_at_call 25; with_reducible refine (soundingsref01_Cmp.calls _ A5 c5 x A6 c6 y z _ HR5b.out HC5.out HR6.out HC6.out HZ.out).mono ?_; rintro e w7 ⟨rfl, hd⟩; have HB7 := Aside0.mk (below_step HB6.out hd.below); have p0w7 := pw_cell_below HB7.out HP0.out; have p1w7 := pw_cell_below HB7.out HP1.out; have p2w7 := pw_cell_below HB7.out HQ0.out; have p3w7 := pw_cell_below HB7.out HQ1.out; clear hd)
    | (go_at_call 34; clear TK8; have TK9 : True := trivial; refine (append_any A0 c0 s A1 c1 a tp vp _ (HL.out.below HB7.out) (Kd.C_below HR0.out HB7.out) HC0.out (Kd.C_below HR1.out HB7.out) HC1.out HO.out HSA.out).mono ?_; rw [HV1.out]; rintro e w8 ⟨A8, c8, rfl, hc, hC, hb⟩; have HB8 := Aside0.mk (below_step HB7.out hb); have HC8 := Aside0.mk hc; have HR8 := Aside0.mk hC; have p0w8 := pw_cell_below HB8.out HP0.out; have p1w8 := pw_cell_below HB8.out HP1.out; have p2w8 := pw_cell_below HB8.out HQ0.out; have p3w8 := pw_cell_below HB8.out HQ1.out; clear hb hc hC)
    | (go_at_call 34; clear TK9; have TK10 : True := trivial; refine (append_any A0 c0 s A2 c2 b tq vq _ (HL.out.below HB8.out) (Kd.C_below HR0.out HB8.out) HC0.out (Kd.C_below HR2.out HB8.out) HC2.out HO.out HSB.out).mono ?_; rw [HV2.out]; rintro e w9 ⟨A9, c9, rfl, hc, hC, hb⟩; have HB9 := Aside0.mk (below_step HB8.out hb); have HC9 := Aside0.mk hc; have HR9 := Aside0.mk hC; have HR8b := Aside0.mk (Kd.C_below HR8.out hb); have p0w9 := pw_cell_below HB9.out HP0.out; have p1w9 := pw_cell_below HB9.out HP1.out; have p2w9 := pw_cell_below HB9.out HQ0.out; have p3w9 := pw_cell_below HB9.out HQ1.out; clear hb hc hC))
  go_ret
  exact ⟨rfl, below_step HBW.out HB9.out⟩
set_option maxHeartbeats 8000000 in
set_option maxRecDepth 100000 in
theorem any_r8 (hL : LaidAll w) (hr0 : Kd.C k71 w A0 s.length s) (hc0 : s.length ≤ c0) (hr1 : Kd.C k46 w A1 a.length a) (hc1 : a.length ≤ c1) (hr2 : Kd.C k46 w A2 b.length b) (hc2 : b.length ≤ c2) (k5 ka kb km : Nat) (x y : Lbs) (kz : Nat) (z : Int) (z0 : ¬ z = 0) (z1 : (z == 0) = false) (e1 : Int) (n : List Ser)  (h5 : soundingsref05_Short.f k5 s = some true) (hta : soundingsref01_Short.f ka a = some true) (htb : soundingsref01_Short.f kb b = some true) (hma : soundingsref01_Make.f km a = some (x, true)) (hmb : soundingsref01_Make.f km b = some (y, true)) (hz : soundingsref01_Cmp.f kz x y = some z) (hok : okS s) (hsa : smallL a) (hsb : smallL b) (hv1 : appendV s a tp vp = ([], some e1)) (hv2 : appendV s b tq vq = (n, none)):
    Calls Tryd.prog 8 #[.slice A0 s.length c0, .slice A1 a.length c1, .agg #[.int .i64 tp, .int .u64 vp], .slice A2 b.length c2, .agg #[.int .i64 tq, .int .u64 vq]] w fun e w' => e = .returned (.bool true) ∧ Below w.heap.size w w' := by
  obtain ⟨w0, hw0⟩ : ∃ w0, w0 = (w.alloc (.cells #[.int .i64 tp, .int .u64 vp] 56)).alloc (.cells #[.int .i64 tq, .int .u64 vq] 56) := ⟨_, rfl⟩
  have hbw0 : Below w.heap.size w w0 := by rw [hw0]; exact below_alloc (below_alloc (Below.refl _ _) _) _
  have HP0 : Aside0 (w0.cell? ⟨w.heap.size, 0, none⟩ = some (.int .i64 tp)) := ⟨by rw [hw0]; go_simp⟩
  have HP1 : Aside0 (w0.cell? ⟨w.heap.size, 1, none⟩ = some (.int .u64 vp)) := ⟨by rw [hw0]; go_simp⟩
  have HQ0 : Aside0 (w0.cell? ⟨w.heap.size + 1, 0, none⟩ = some (.int .i64 tq)) := ⟨by rw [hw0]; go_simp⟩
  have HQ1 : Aside0 (w0.cell? ⟨w.heap.size + 1, 1, none⟩ = some (.int .u64 vq)) := ⟨by rw [hw0]; go_simp⟩
  have HL := Aside0.mk (hL.below hbw0)
  have HR0 := Aside0.mk (Kd.C_below hr0 hbw0)
  have HR1 := Aside0.mk (Kd.C_below hr1 hbw0)
  have HR2 := Aside0.mk (Kd.C_below hr2 hbw0)
  have HC0 := Aside0.mk hc0
  have HC1 := Aside0.mk hc1
  have HC2 := Aside0.mk hc2
  have HB0 := Aside0.mk (Below.refl w0.heap.size w0)
  have HBW := Aside0.mk hbw0
  have HW0 := Aside0.mk hw0
  clear hL hr0 hc0 hr1 hc1 hr2 hc2 hbw0 hw0
  have TK8 : True := trivial
  have H5 := Aside0.mk h5
  have HTA := Aside0.mk hta
  have HTB := Aside0.mk htb
  have HMA := Aside0.mk hma
  have HMB := Aside0.mk hmb
  have HZ := Aside0.mk hz
  have HO := Aside0.mk hok
  have HSA := Aside0.mk hsa
  have HSB := Aside0.mk hsb
  have HV1 := Aside0.mk hv1
  have HV2 := Aside0.mk hv2
  clear h5 hta htb hma hmb hz hok hsa hsb hv1 hv2
  go_enter Tryd.func8, Tryd.ntmps8
  go_wp2_with (first
    | (go_at_call 32; rw [← HW0.out]; with_reducible refine (awake05 _ HL.out).mono ?_; rintro e w1 ⟨rfl, hb⟩; have HB1 := Aside0.mk (below_step HB0.out hb); clear hb)
    | (go_at_call 33; with_reducible refine (soundingsref05_Short.calls _ A0 c0 s true _ (Kd.C_below HR0.out HB1.out) HC0.out H5.out).mono ?_; rintro e w2 ⟨rfl, hd⟩; have HB2 := Aside0.mk (below_step HB1.out hd.below); clear hd)
    | (go_at_call 18; with_reducible refine (soundingsref01_Short.calls _ A1 c1 a true _ (Kd.C_below HR1.out HB2.out) HC1.out HTA.out).mono ?_; rintro e w3 ⟨rfl, hd⟩; have HB3 := Aside0.mk (below_step HB2.out hd.below); clear hd)
    | (go_at_call 18; with_reducible refine (soundingsref01_Short.calls _ A2 c2 b true _ (Kd.C_below HR2.out HB3.out) HC2.out HTB.out).mono ?_; rintro e w4 ⟨rfl, hd⟩; have HB4 := Aside0.mk (below_step HB3.out hd.below); clear hd)
    | (go_at_call 20; with_reducible refine (soundingsref01_Make.calls _ A1 c1 a x true _ (Kd.C_below HR1.out HB4.out) HC1.out HMA.out).mono ?_; rintro e w5 ⟨v5, rfl, ho, hb⟩; obtain ⟨A5, c5, rfl, hc, hC⟩ := Kd.R_reads ho; have HB5 := Aside0.mk (below_step HB4.out hb); have HC5 := Aside0.mk hc; have HR5 := Aside0.mk hC; clear hb ho hc hC)
    | (go_at_call 20; with_reducible refine (soundingsref01_Make.calls _ A2 c2 b y true _ (Kd.C_below HR2.out HB5.out) HC2.out HMB.out).mono ?_; rintro e w6 ⟨v6, rfl, ho, hb⟩; obtain ⟨A6, c6, rfl, hc, hC⟩ := Kd.R_reads ho; have HB6 := Aside0.mk (below_step HB5.out hb); have HC6 := Aside0.mk hc; have HR6 := Aside0.mk hC; have HR5b := Aside0.mk (Kd.C_below HR5.out hb); clear hb ho hc hC)
    | (go_at_call 25; with_reducible refine (soundingsref01_Cmp.calls _ A5 c5 x A6 c6 y z _ HR5b.out HC5.out HR6.out HC6.out HZ.out).mono ?_; rintro e w7 ⟨rfl, hd⟩; have HB7 := Aside0.mk (below_step HB6.out hd.below); have p0w7 := pw_cell_below HB7.out HP0.out; have p1w7 := pw_cell_below HB7.out HP1.out; have p2w7 := pw_cell_below HB7.out HQ0.out; have p3w7 := pw_cell_below HB7.out HQ1.out; clear hd)
    | (go_at_call 34; clear TK8; have TK9 : True := trivial; refine (append_any A0 c0 s A1 c1 a tp vp _ (HL.out.below HB7.out) (Kd.C_below HR0.out HB7.out) HC0.out (Kd.C_below HR1.out HB7.out) HC1.out HO.out HSA.out).mono ?_; rw [HV1.out]; rintro e w8 ⟨A8, c8, rfl, hc, hC, hb⟩; have HB8 := Aside0.mk (below_step HB7.out hb); have HC8 := Aside0.mk hc; have HR8 := Aside0.mk hC; have p0w8 := pw_cell_below HB8.out HP0.out; have p1w8 := pw_cell_below HB8.out HP1.out; have p2w8 := pw_cell_below HB8.out HQ0.out; have p3w8 := pw_cell_below HB8.out HQ1.out; clear hb hc hC)
    | (go_at_call 34; clear TK9; have TK10 : True := trivial; refine (append_any A0 c0 s A2 c2 b tq vq _ (HL.out.below HB8.out) (Kd.C_below HR0.out HB8.out) HC0.out (Kd.C_below HR2.out HB8.out) HC2.out HO.out HSB.out).mono ?_; rw [HV2.out]; rintro e w9 ⟨A9, c9, rfl, hc, hC, hb⟩; have HB9 := Aside0.mk (below_step HB8.out hb); have HC9 := Aside0.mk hc; have HR9 := Aside0.mk hC; have HR8b := Aside0.mk (Kd.C_below HR8.out hb); have p0w9 := pw_cell_below HB9.out HP0.out; have p1w9 := pw_cell_below HB9.out HP1.out; have p2w9 := pw_cell_below HB9.out HQ0.out; have p3w9 := pw_cell_below HB9.out HQ1.out; clear hb hc hC))
  go_ret
  exact ⟨rfl, below_step HBW.out HB9.out⟩
set_option maxHeartbeats 8000000 in
set_option maxRecDepth 100000 in
theorem any_r9 (hL : LaidAll w) (hr0 : Kd.C k71 w A0 s.length s) (hc0 : s.length ≤ c0) (hr1 : Kd.C k46 w A1 a.length a) (hc1 : a.length ≤ c1) (hr2 : Kd.C k46 w A2 b.length b) (hc2 : b.length ≤ c2) (k5 ka kb km : Nat) (x y : Lbs) (kz : Nat) (z : Int) (z0 : ¬ z = 0) (z1 : (z == 0) = false) (e2 : Int) (m : List Ser)  (h5 : soundingsref05_Short.f k5 s = some true) (hta : soundingsref01_Short.f ka a = some true) (htb : soundingsref01_Short.f kb b = some true) (hma : soundingsref01_Make.f km a = some (x, true)) (hmb : soundingsref01_Make.f km b = some (y, true)) (hz : soundingsref01_Cmp.f kz x y = some z) (hok : okS s) (hsa : smallL a) (hsb : smallL b) (hv1 : appendV s a tp vp = (m, none)) (hv2 : appendV s b tq vq = ([], some e2)):
    Calls Tryd.prog 8 #[.slice A0 s.length c0, .slice A1 a.length c1, .agg #[.int .i64 tp, .int .u64 vp], .slice A2 b.length c2, .agg #[.int .i64 tq, .int .u64 vq]] w fun e w' => e = .returned (.bool true) ∧ Below w.heap.size w w' := by
  obtain ⟨w0, hw0⟩ : ∃ w0, w0 = (w.alloc (.cells #[.int .i64 tp, .int .u64 vp] 56)).alloc (.cells #[.int .i64 tq, .int .u64 vq] 56) := ⟨_, rfl⟩
  have hbw0 : Below w.heap.size w w0 := by rw [hw0]; exact below_alloc (below_alloc (Below.refl _ _) _) _
  have HP0 : Aside0 (w0.cell? ⟨w.heap.size, 0, none⟩ = some (.int .i64 tp)) := ⟨by rw [hw0]; go_simp⟩
  have HP1 : Aside0 (w0.cell? ⟨w.heap.size, 1, none⟩ = some (.int .u64 vp)) := ⟨by rw [hw0]; go_simp⟩
  have HQ0 : Aside0 (w0.cell? ⟨w.heap.size + 1, 0, none⟩ = some (.int .i64 tq)) := ⟨by rw [hw0]; go_simp⟩
  have HQ1 : Aside0 (w0.cell? ⟨w.heap.size + 1, 1, none⟩ = some (.int .u64 vq)) := ⟨by rw [hw0]; go_simp⟩
  have HL := Aside0.mk (hL.below hbw0)
  have HR0 := Aside0.mk (Kd.C_below hr0 hbw0)
  have HR1 := Aside0.mk (Kd.C_below hr1 hbw0)
  have HR2 := Aside0.mk (Kd.C_below hr2 hbw0)
  have HC0 := Aside0.mk hc0
  have HC1 := Aside0.mk hc1
  have HC2 := Aside0.mk hc2
  have HB0 := Aside0.mk (Below.refl w0.heap.size w0)
  have HBW := Aside0.mk hbw0
  have HW0 := Aside0.mk hw0
  clear hL hr0 hc0 hr1 hc1 hr2 hc2 hbw0 hw0
  have TK8 : True := trivial
  have H5 := Aside0.mk h5
  have HTA := Aside0.mk hta
  have HTB := Aside0.mk htb
  have HMA := Aside0.mk hma
  have HMB := Aside0.mk hmb
  have HZ := Aside0.mk hz
  have HO := Aside0.mk hok
  have HSA := Aside0.mk hsa
  have HSB := Aside0.mk hsb
  have HV1 := Aside0.mk hv1
  have HV2 := Aside0.mk hv2
  clear h5 hta htb hma hmb hz hok hsa hsb hv1 hv2
  go_enter Tryd.func8, Tryd.ntmps8
  go_wp2_with (first
    | (go_at_call 32; rw [← HW0.out]; with_reducible refine (awake05 _ HL.out).mono ?_; rintro e w1 ⟨rfl, hb⟩; have HB1 := Aside0.mk (below_step HB0.out hb); clear hb)
    | (go_at_call 33; with_reducible refine (soundingsref05_Short.calls _ A0 c0 s true _ (Kd.C_below HR0.out HB1.out) HC0.out H5.out).mono ?_; rintro e w2 ⟨rfl, hd⟩; have HB2 := Aside0.mk (below_step HB1.out hd.below); clear hd)
    | (go_at_call 18; with_reducible refine (soundingsref01_Short.calls _ A1 c1 a true _ (Kd.C_below HR1.out HB2.out) HC1.out HTA.out).mono ?_; rintro e w3 ⟨rfl, hd⟩; have HB3 := Aside0.mk (below_step HB2.out hd.below); clear hd)
    | (go_at_call 18; with_reducible refine (soundingsref01_Short.calls _ A2 c2 b true _ (Kd.C_below HR2.out HB3.out) HC2.out HTB.out).mono ?_; rintro e w4 ⟨rfl, hd⟩; have HB4 := Aside0.mk (below_step HB3.out hd.below); clear hd)
    | (go_at_call 20; with_reducible refine (soundingsref01_Make.calls _ A1 c1 a x true _ (Kd.C_below HR1.out HB4.out) HC1.out HMA.out).mono ?_; rintro e w5 ⟨v5, rfl, ho, hb⟩; obtain ⟨A5, c5, rfl, hc, hC⟩ := Kd.R_reads ho; have HB5 := Aside0.mk (below_step HB4.out hb); have HC5 := Aside0.mk hc; have HR5 := Aside0.mk hC; clear hb ho hc hC)
    | (go_at_call 20; with_reducible refine (soundingsref01_Make.calls _ A2 c2 b y true _ (Kd.C_below HR2.out HB5.out) HC2.out HMB.out).mono ?_; rintro e w6 ⟨v6, rfl, ho, hb⟩; obtain ⟨A6, c6, rfl, hc, hC⟩ := Kd.R_reads ho; have HB6 := Aside0.mk (below_step HB5.out hb); have HC6 := Aside0.mk hc; have HR6 := Aside0.mk hC; have HR5b := Aside0.mk (Kd.C_below HR5.out hb); clear hb ho hc hC)
    | (go_at_call 25; with_reducible refine (soundingsref01_Cmp.calls _ A5 c5 x A6 c6 y z _ HR5b.out HC5.out HR6.out HC6.out HZ.out).mono ?_; rintro e w7 ⟨rfl, hd⟩; have HB7 := Aside0.mk (below_step HB6.out hd.below); have p0w7 := pw_cell_below HB7.out HP0.out; have p1w7 := pw_cell_below HB7.out HP1.out; have p2w7 := pw_cell_below HB7.out HQ0.out; have p3w7 := pw_cell_below HB7.out HQ1.out; clear hd)
    | (go_at_call 34; clear TK8; have TK9 : True := trivial; refine (append_any A0 c0 s A1 c1 a tp vp _ (HL.out.below HB7.out) (Kd.C_below HR0.out HB7.out) HC0.out (Kd.C_below HR1.out HB7.out) HC1.out HO.out HSA.out).mono ?_; rw [HV1.out]; rintro e w8 ⟨A8, c8, rfl, hc, hC, hb⟩; have HB8 := Aside0.mk (below_step HB7.out hb); have HC8 := Aside0.mk hc; have HR8 := Aside0.mk hC; have p0w8 := pw_cell_below HB8.out HP0.out; have p1w8 := pw_cell_below HB8.out HP1.out; have p2w8 := pw_cell_below HB8.out HQ0.out; have p3w8 := pw_cell_below HB8.out HQ1.out; clear hb hc hC)
    | (go_at_call 34; clear TK9; have TK10 : True := trivial; refine (append_any A0 c0 s A2 c2 b tq vq _ (HL.out.below HB8.out) (Kd.C_below HR0.out HB8.out) HC0.out (Kd.C_below HR2.out HB8.out) HC2.out HO.out HSB.out).mono ?_; rw [HV2.out]; rintro e w9 ⟨A9, c9, rfl, hc, hC, hb⟩; have HB9 := Aside0.mk (below_step HB8.out hb); have HC9 := Aside0.mk hc; have HR9 := Aside0.mk hC; have HR8b := Aside0.mk (Kd.C_below HR8.out hb); have p0w9 := pw_cell_below HB9.out HP0.out; have p1w9 := pw_cell_below HB9.out HP1.out; have p2w9 := pw_cell_below HB9.out HQ0.out; have p3w9 := pw_cell_below HB9.out HQ1.out; clear hb hc hC))
  go_ret
  exact ⟨rfl, below_step HBW.out HB9.out⟩
set_option maxHeartbeats 8000000 in
set_option maxRecDepth 100000 in
theorem any_r10 (hL : LaidAll w) (hr0 : Kd.C k71 w A0 s.length s) (hc0 : s.length ≤ c0) (hr1 : Kd.C k46 w A1 a.length a) (hc1 : a.length ≤ c1) (hr2 : Kd.C k46 w A2 b.length b) (hc2 : b.length ≤ c2) (k5 ka kb km : Nat) (x y : Lbs) (kz : Nat) (z : Int) (z0 : ¬ z = 0) (z1 : (z == 0) = false) (ks : Nat) (m n o : List Ser)  (h5 : soundingsref05_Short.f k5 s = some true) (hta : soundingsref01_Short.f ka a = some true) (htb : soundingsref01_Short.f kb b = some true) (hma : soundingsref01_Make.f km a = some (x, true)) (hmb : soundingsref01_Make.f km b = some (y, true)) (hz : soundingsref01_Cmp.f kz x y = some z) (hok : okS s) (hsa : smallL a) (hsb : smallL b) (hv1 : appendV s a tp vp = (m, none)) (hv2 : appendV s b tq vq = (n, none)) (hv3 : appendV m b tq vq = (o, none)) (hv4 : appendV n a tp vp = (o, none)) (hom : okS m) (hon : okS n) (hsm : soundingsref05_Same.f ks o o = some true):
    Calls Tryd.prog 8 #[.slice A0 s.length c0, .slice A1 a.length c1, .agg #[.int .i64 tp, .int .u64 vp], .slice A2 b.length c2, .agg #[.int .i64 tq, .int .u64 vq]] w fun e w' => e = .returned (.bool true) ∧ Below w.heap.size w w' := by
  obtain ⟨w0, hw0⟩ : ∃ w0, w0 = (w.alloc (.cells #[.int .i64 tp, .int .u64 vp] 56)).alloc (.cells #[.int .i64 tq, .int .u64 vq] 56) := ⟨_, rfl⟩
  have hbw0 : Below w.heap.size w w0 := by rw [hw0]; exact below_alloc (below_alloc (Below.refl _ _) _) _
  have HP0 : Aside0 (w0.cell? ⟨w.heap.size, 0, none⟩ = some (.int .i64 tp)) := ⟨by rw [hw0]; go_simp⟩
  have HP1 : Aside0 (w0.cell? ⟨w.heap.size, 1, none⟩ = some (.int .u64 vp)) := ⟨by rw [hw0]; go_simp⟩
  have HQ0 : Aside0 (w0.cell? ⟨w.heap.size + 1, 0, none⟩ = some (.int .i64 tq)) := ⟨by rw [hw0]; go_simp⟩
  have HQ1 : Aside0 (w0.cell? ⟨w.heap.size + 1, 1, none⟩ = some (.int .u64 vq)) := ⟨by rw [hw0]; go_simp⟩
  have HL := Aside0.mk (hL.below hbw0)
  have HR0 := Aside0.mk (Kd.C_below hr0 hbw0)
  have HR1 := Aside0.mk (Kd.C_below hr1 hbw0)
  have HR2 := Aside0.mk (Kd.C_below hr2 hbw0)
  have HC0 := Aside0.mk hc0
  have HC1 := Aside0.mk hc1
  have HC2 := Aside0.mk hc2
  have HB0 := Aside0.mk (Below.refl w0.heap.size w0)
  have HBW := Aside0.mk hbw0
  have HW0 := Aside0.mk hw0
  clear hL hr0 hc0 hr1 hc1 hr2 hc2 hbw0 hw0
  have TK8 : True := trivial
  have H5 := Aside0.mk h5
  have HTA := Aside0.mk hta
  have HTB := Aside0.mk htb
  have HMA := Aside0.mk hma
  have HMB := Aside0.mk hmb
  have HZ := Aside0.mk hz
  have HO := Aside0.mk hok
  have HSA := Aside0.mk hsa
  have HSB := Aside0.mk hsb
  have HV1 := Aside0.mk hv1
  have HV2 := Aside0.mk hv2
  have HV3 := Aside0.mk hv3
  have HV4 := Aside0.mk hv4
  have HOM := Aside0.mk hom
  have HON := Aside0.mk hon
  have HSM := Aside0.mk hsm
  clear h5 hta htb hma hmb hz hok hsa hsb hv1 hv2 hv3 hv4 hom hon hsm
  go_enter Tryd.func8, Tryd.ntmps8
  go_wp2_with (first
    | (go_at_call 32; rw [← HW0.out]; with_reducible refine (awake05 _ HL.out).mono ?_; rintro e w1 ⟨rfl, hb⟩; have HB1 := Aside0.mk (below_step HB0.out hb); clear hb)
    | (go_at_call 33; with_reducible refine (soundingsref05_Short.calls _ A0 c0 s true _ (Kd.C_below HR0.out HB1.out) HC0.out H5.out).mono ?_; rintro e w2 ⟨rfl, hd⟩; have HB2 := Aside0.mk (below_step HB1.out hd.below); clear hd)
    | (go_at_call 18; with_reducible refine (soundingsref01_Short.calls _ A1 c1 a true _ (Kd.C_below HR1.out HB2.out) HC1.out HTA.out).mono ?_; rintro e w3 ⟨rfl, hd⟩; have HB3 := Aside0.mk (below_step HB2.out hd.below); clear hd)
    | (go_at_call 18; with_reducible refine (soundingsref01_Short.calls _ A2 c2 b true _ (Kd.C_below HR2.out HB3.out) HC2.out HTB.out).mono ?_; rintro e w4 ⟨rfl, hd⟩; have HB4 := Aside0.mk (below_step HB3.out hd.below); clear hd)
    | (go_at_call 20; with_reducible refine (soundingsref01_Make.calls _ A1 c1 a x true _ (Kd.C_below HR1.out HB4.out) HC1.out HMA.out).mono ?_; rintro e w5 ⟨v5, rfl, ho, hb⟩; obtain ⟨A5, c5, rfl, hc, hC⟩ := Kd.R_reads ho; have HB5 := Aside0.mk (below_step HB4.out hb); have HC5 := Aside0.mk hc; have HR5 := Aside0.mk hC; clear hb ho hc hC)
    | (go_at_call 20; with_reducible refine (soundingsref01_Make.calls _ A2 c2 b y true _ (Kd.C_below HR2.out HB5.out) HC2.out HMB.out).mono ?_; rintro e w6 ⟨v6, rfl, ho, hb⟩; obtain ⟨A6, c6, rfl, hc, hC⟩ := Kd.R_reads ho; have HB6 := Aside0.mk (below_step HB5.out hb); have HC6 := Aside0.mk hc; have HR6 := Aside0.mk hC; have HR5b := Aside0.mk (Kd.C_below HR5.out hb); clear hb ho hc hC)
    | (go_at_call 25; with_reducible refine (soundingsref01_Cmp.calls _ A5 c5 x A6 c6 y z _ HR5b.out HC5.out HR6.out HC6.out HZ.out).mono ?_; rintro e w7 ⟨rfl, hd⟩; have HB7 := Aside0.mk (below_step HB6.out hd.below); have p0w7 := pw_cell_below HB7.out HP0.out; have p1w7 := pw_cell_below HB7.out HP1.out; have p2w7 := pw_cell_below HB7.out HQ0.out; have p3w7 := pw_cell_below HB7.out HQ1.out; clear hd)
    | (go_at_call 34; clear TK8; have TK9 : True := trivial; refine (append_any A0 c0 s A1 c1 a tp vp _ (HL.out.below HB7.out) (Kd.C_below HR0.out HB7.out) HC0.out (Kd.C_below HR1.out HB7.out) HC1.out HO.out HSA.out).mono ?_; rw [HV1.out]; rintro e w8 ⟨A8, c8, rfl, hc, hC, hb⟩; have HB8 := Aside0.mk (below_step HB7.out hb); have HC8 := Aside0.mk hc; have HR8 := Aside0.mk hC; have p0w8 := pw_cell_below HB8.out HP0.out; have p1w8 := pw_cell_below HB8.out HP1.out; have p2w8 := pw_cell_below HB8.out HQ0.out; have p3w8 := pw_cell_below HB8.out HQ1.out; clear hb hc hC)
    | (go_at_call 34; clear TK9; have TK10 : True := trivial; refine (append_any A0 c0 s A2 c2 b tq vq _ (HL.out.below HB8.out) (Kd.C_below HR0.out HB8.out) HC0.out (Kd.C_below HR2.out HB8.out) HC2.out HO.out HSB.out).mono ?_; rw [HV2.out]; rintro e w9 ⟨A9, c9, rfl, hc, hC, hb⟩; have HB9 := Aside0.mk (below_step HB8.out hb); have HC9 := Aside0.mk hc; have HR9 := Aside0.mk hC; have HR8b := Aside0.mk (Kd.C_below HR8.out hb); have p0w9 := pw_cell_below HB9.out HP0.out; have p1w9 := pw_cell_below HB9.out HP1.out; have p2w9 := pw_cell_below HB9.out HQ0.out; have p3w9 := pw_cell_below HB9.out HQ1.out; clear hb hc hC)
    | (go_at_call 34; clear TK10; have TK11 : True := trivial; refine (append_any A8 c8 m A2 c2 b tq vq _ (HL.out.below HB9.out) HR8b.out HC8.out (Kd.C_below HR2.out HB9.out) HC2.out HOM.out HSB.out).mono ?_; rw [HV3.out]; rintro e w10 ⟨A10, c10, rfl, hc, hC, hb⟩; have HB10 := Aside0.mk (below_step HB9.out hb); have HC10 := Aside0.mk hc; have HR10 := Aside0.mk hC; have HR9b := Aside0.mk (Kd.C_below HR9.out hb); have p0w10 := pw_cell_below HB10.out HP0.out; have p1w10 := pw_cell_below HB10.out HP1.out; have p2w10 := pw_cell_below HB10.out HQ0.out; have p3w10 := pw_cell_below HB10.out HQ1.out; clear hb hc hC)
    | (go_at_call 34; clear TK11; have TK12 : True := trivial; refine (append_any A9 c9 n A1 c1 a tp vp _ (HL.out.below HB10.out) HR9b.out HC9.out (Kd.C_below HR1.out HB10.out) HC1.out HON.out HSA.out).mono ?_; rw [HV4.out]; rintro e w11 ⟨A11, c11, rfl, hc, hC, hb⟩; have HB11 := Aside0.mk (below_step HB10.out hb); have HC11 := Aside0.mk hc; have HR11 := Aside0.mk hC; have HR10b := Aside0.mk (Kd.C_below HR10.out hb); clear hb hc hC)
    | (go_at_call 35; with_reducible refine (soundingsref05_Same.calls _ A10 c10 o A11 c11 o true _ HR10b.out HC10.out HR11.out HC11.out HSM.out).mono ?_; rintro e w12 ⟨rfl, hd⟩; have HB12 := Aside0.mk (below_step HB11.out hd.below); clear hd))
  go_ret
  exact ⟨rfl, below_step HBW.out HB12.out⟩
end
end Go.Proofs.YtfbockgjhbfidaaDoor.Pr
