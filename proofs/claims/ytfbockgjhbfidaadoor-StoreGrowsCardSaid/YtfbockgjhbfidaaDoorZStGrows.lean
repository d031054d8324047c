/- Texts of this session, cut down to what one claim needs and joined: StGrows. -/
import Derived.Test.YtfbockgjhbfidaaDoorZStAwake
import Derived.Test.YtfbockgjhbfidaaDoorZStPure2
import Derived.Test.YtfbockgjhbfidaaDoorZPrSoundingsref01Make
import Derived.Test.YtfbockgjhbfidaaDoorZGPr
import Derived.BigQuiet
set_option linter.unusedVariables false
set_option linter.unusedSimpArgs false
namespace Go.Proofs.YtfbockgjhbfidaaDoor.Pr
open Go.RowKit Go.Proofs.YtfbockgjhbfidaaDoorW.PrintWords Go.Proofs.YtfbockgjhbfidaaDoorW.PrintLast Go.Proofs.YtfbockgjhbfidaaDoorW.PrintMore
attribute [local go_sem] errW_none errW_some

section
variable (A0 : Option Addr) (c0 : Nat) (s : List Ser) (A1 : Option Addr) (c1 : Nat) (l : Lbs) (tp vp : Int) (v : Int) (w : World)
set_option maxHeartbeats 8000000 in
set_option maxRecDepth 100000 in
theorem grows_r1 (hL : LaidAll w) (hr0 : Kd.C k71 w A0 s.length s) (hc0 : s.length ≤ c0) (hr1 : Kd.C k46 w A1 l.length l) (hc1 : l.length ≤ c1) (k5 : Nat)  (h5 : soundingsref05_Short.f k5 s = some false):
    Calls Tryd.prog 10 #[.slice A0 s.length c0, .slice A1 l.length c1, .agg #[.int .i64 tp, .int .u64 vp], .int .u64 v] w fun e w' => e = .returned (.bool true) ∧ Below w.heap.size w w' := by
  obtain ⟨w0, hw0⟩ : ∃ w0, w0 = w.alloc (.cells #[.int .i64 tp, .int .u64 vp] 56) := ⟨_, rfl⟩
  have hbw0 : Below w.heap.size w w0 := by rw [hw0]; exact below_alloc (Below.refl _ _) _
  have HP0 : Aside0 (w0.cell? ⟨w.heap.size, 0, none⟩ = some (.int .i64 tp)) := ⟨by rw [hw0]; go_simp⟩
  have HP1 : Aside0 (w0.cell? ⟨w.heap.size, 1, none⟩ = some (.int .u64 vp)) := ⟨by rw [hw0]; go_simp⟩
  have HL := Aside0.mk (hL.below hbw0)
  have HR0 := Aside0.mk (Kd.C_below hr0 hbw0)
  have HR1 := Aside0.mk (Kd.C_below hr1 hbw0)
  have HC0 := Aside0.mk hc0
  have HC1 := Aside0.mk hc1
  have HB0 := Aside0.mk (Below.refl w0.heap.size w0)
  have HBW := Aside0.mk hbw0
  have HW0 := Aside0.mk hw0
  clear hL hr0 hc0 hr1 hc1 hbw0 hw0
  have TK4 : True := trivial
  have H5 := Aside0.mk h5
  clear h5
  go_enter Tryd.func10, Tryd.ntmps10
  go_wp2_with (first
    | (go_at_call 32; rw [← HW0.out]; refine (awake05 _ HL.out).mono ?_; rintro e w1 ⟨rfl, hb⟩; have HB1 := Aside0.mk (below_step HB0.out hb); clear hb)
    | (go_at_call 33; with_reducible refine (soundingsref05_Short.calls _ A0 c0 s false _ (Kd.C_below HR0.out HB1.out) HC0.out H5.out).mono ?_; rintro e w2 ⟨rfl, hd⟩; have HB2 := Aside0.mk (below_step HB1.out hd.below); clear hd))
  go_ret
  exact ⟨rfl, below_step HBW.out HB2.out⟩
set_option maxHeartbeats 8000000 in
set_option maxRecDepth 100000 in
theorem grows_r2 (hL : LaidAll w) (hr0 : Kd.C k71 w A0 s.length s) (hc0 : s.length ≤ c0) (hr1 : Kd.C k46 w A1 l.length l) (hc1 : l.length ≤ c1) (k5 ka : Nat)  (h5 : soundingsref05_Short.f k5 s = some true) (hta : soundingsref01_Short.f ka l = some false):
    Calls Tryd.prog 10 #[.slice A0 s.length c0, .slice A1 l.length c1, .agg #[.int .i64 tp, .int .u64 vp], .int .u64 v] w fun e w' => e = .returned (.bool true) ∧ Below w.heap.size w w' := by
  obtain ⟨w0, hw0⟩ : ∃ w0, w0 = w.alloc (.cells #[.int .i64 tp, .int .u64 vp] 56) := ⟨_, rfl⟩
  have hbw0 : Below w.heap.size w w0 := by rw [hw0]; exact below_alloc (Below.refl _ _) _
  have HP0 : Aside0 (w0.cell? ⟨w.heap.size, 0, none⟩ = some (.int .i64 tp)) := ⟨by rw [hw0]; go_simp⟩
  have HP1 : Aside0 (w0.cell? ⟨w.heap.size, 1, none⟩ = some (.int .u64 vp)) := ⟨by rw [hw0]; go_simp⟩
  have HL := Aside0.mk (hL.below hbw0)
  have HR0 := Aside0.mk (Kd.C_below hr0 hbw0)
  have HR1 := Aside0.mk (Kd.C_below hr1 hbw0)
  have HC0 := Aside0.mk hc0
  have HC1 := Aside0.mk hc1
  have HB0 := Aside0.mk (Below.refl w0.heap.size w0)
  have HBW := Aside0.mk hbw0
  have HW0 := Aside0.mk hw0
  clear hL hr0 hc0 hr1 hc1 hbw0 hw0
  have TK4 : True := trivial
  have H5 := Aside0.mk h5
  have HTA := Aside0.mk hta
  clear h5 hta
  go_enter Tryd.func10, Tryd.ntmps10
  go_wp2_with (first
    | (go_at_call 32; rw [← HW0.out]; refine (awake05 _ HL.out).mono ?_; rintro e w1 ⟨rfl, hb⟩; have HB1 := Aside0.mk (below_step HB0.out hb); clear hb)
    | (go_at_call 33; with_reducible refine (soundingsref05_Short.calls _ A0 c0 s true _ (Kd.C_below HR0.out HB1.out) HC0.out H5.out).mono ?_; rintro e w2 ⟨rfl, hd⟩; have HB2 := Aside0.mk (below_step HB1.out hd.below); clear hd)
    | (go_at_call 18; with_reducible refine (soundingsref01_Short.calls _ A1 c1 l false _ (Kd.C_below HR1.out HB2.out) HC1.out HTA.out).mono ?_; rintro e w3 ⟨rfl, hd⟩; have HB3 := Aside0.mk (below_step HB2.out hd.below); have p0w3 := pw_cell_below HB3.out HP0.out; have p1w3 := pw_cell_below HB3.out HP1.out; clear hd))
  go_ret
  exact ⟨rfl, below_step HBW.out HB3.out⟩
set_option maxHeartbeats 8000000 in
set_option maxRecDepth 100000 in
theorem grows_r3 (hL : LaidAll w) (hr0 : Kd.C k71 w A0 s.length s) (hc0 : s.length ≤ c0) (hr1 : Kd.C k46 w A1 l.length l) (hc1 : l.length ≤ c1) (k5 ka : Nat) (e1 : Int)  (h5 : soundingsref05_Short.f k5 s = some true) (hta : soundingsref01_Short.f ka l = some true) (hok : okS s) (hsa : smallL l) (hv1 : appendV s l tp vp = ([], some e1)):
    Calls Tryd.prog 10 #[.slice A0 s.length c0, .slice A1 l.length c1, .agg #[.int .i64 tp, .int .u64 vp], .int .u64 v] w fun e w' => e = .returned (.bool true) ∧ Below w.heap.size w w' := by
  obtain ⟨w0, hw0⟩ : ∃ w0, w0 = w.alloc (.cells #[.int .i64 tp, .int .u64 vp] 56) := ⟨_, rfl⟩
  have hbw0 : Below w.heap.size w w0 := by rw [hw0]; exact below_alloc (Below.refl _ _) _
  have HP0 : Aside0 (w0.cell? ⟨w.heap.size, 0, none⟩ = some (.int .i64 tp)) := ⟨by rw [hw0]; go_simp⟩
  have HP1 : Aside0 (w0.cell? ⟨w.heap.size, 1, none⟩ = some (.int .u64 vp)) := ⟨by rw [hw0]; go_simp⟩
  have HL := Aside0.mk (hL.below hbw0)
  have HR0 := Aside0.mk (Kd.C_below hr0 hbw0)
  have HR1 := Aside0.mk (Kd.C_below hr1 hbw0)
  have HC0 := Aside0.mk hc0
  have HC1 := Aside0.mk hc1
  have HB0 := Aside0.mk (Below.refl w0.heap.size w0)
  have HBW := Aside0.mk hbw0
  have HW0 := Aside0.mk hw0
  clear hL hr0 hc0 hr1 hc1 hbw0 hw0
  have TK4 : True := trivial
  have H5 := Aside0.mk h5
  have HTA := Aside0.mk hta
  have HO := Aside0.mk hok
  have HSA := Aside0.mk hsa
  have HV1 := Aside0.mk hv1
  clear h5 hta hok hsa hv1
  go_enter Tryd.func10, Tryd.ntmps10
  go_wp2_with (first
    | (go_at_call 32; rw [← HW0.out]; refine (awake05 _ HL.out).mono ?_; rintro e w1 ⟨rfl, hb⟩; have HB1 := Aside0.mk (below_step HB0.out hb); clear hb)
    | (go_at_call 33; with_reducible refine (soundingsref05_Short.calls _ A0 c0 s true _ (Kd.C_below HR0.out HB1.out) HC0.out H5.out).mono ?_; rintro e w2 ⟨rfl, hd⟩; have HB2 := Aside0.mk (below_step HB1.out hd.below); clear hd)
    | (go_at_call 18; with_reducible refine (soundingsref01_Short.calls _ A1 c1 l true _ (Kd.C_below HR1.out HB2.out) HC1.out HTA.out).mono ?_; rintro e w3 ⟨rfl, hd⟩; have HB3 := Aside0.mk (below_step HB2.out hd.below); have p0w3 := pw_cell_below HB3.out HP0.out; have p1w3 := pw_cell_below HB3.out HP1.out; clear hd)
    | (go_at_call 34; clear TK4; have TK5 : True := trivial; refine (append_any A0 c0 s A1 c1 l tp vp _ (HL.out.below HB3.out) (Kd.C_below HR0.out HB3.out) HC0.out (Kd.C_below HR1.out HB3.out) HC1.out HO.out HSA.out).mono ?_; rw [HV1.out]; rintro e w4 ⟨A4, c4, rfl, hc, hC, hb⟩; have HB4 := Aside0.mk (below_step HB3.out hb); have HC4 := Aside0.mk hc; have HR4 := Aside0.mk hC; have p0w4 := pw_cell_below HB4.out HP0.out; have p1w4 := pw_cell_below HB4.out HP1.out; clear hb hc hC))
  go_ret
  exact ⟨rfl, below_step HBW.out HB4.out⟩
end
def F4 (k n xl : Nat) : Prop := (0 : Int) ≤ (k : Int) ∧ (k : Int) < (xl : Int) ∧ ¬ ((k : Int) < 0) ∧ ¬ ((xl : Int) ≤ (k : Int)) ∧ ¬ (xl ≤ k) ∧ wrap64 (n : Int) = (n : Int) ∧ IntKind.i64.wrap ((n : Int) + 1 - 1) = (n : Int) ∧ (0 : Int) ≤ wrap64 (n : Int) ∧ wrap64 (n : Int) < (n : Int) + 1 ∧ (0 : Int) ≤ (n : Int) ∧ (n : Int) < (n : Int) + 1 ∧ ((n : Int) + 1 == 0) = false ∧ ¬ ((n : Int) + 1 = 0)
theorem facts4 {k n xl : Nat} (hk : k < xl) (hx : xl ≤ 1000000) (hn : n ≤ 1000000) : F4 k n xl := by
  have p3 : wrap64 (n : Int) = (n : Int) := by unfold wrap64; omega
  refine ⟨by omega, by omega, by omega, by omega, by omega, p3, by rw [IntKind.wrap_i64]; omega, by rw [p3]; omega, by rw [p3]; omega, by omega, by omega, by rw [beq_eq_false_iff_ne]; omega, by omega⟩
end Go.Proofs.YtfbockgjhbfidaaDoor.Pr
