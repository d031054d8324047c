/- Texts of this session, cut down to what one claim needs and joined: StIdx. -/
import Derived.Test.YtfbockgjhbfidaaGreatDoorQGSt0
set_option linter.unusedVariables false
set_option linter.unusedSimpArgs false
namespace Go.Proofs.YtfbockgjhbfidaaGreatDoor.Pr
open Go.RowKit Go.Proofs.YtfbockgjhbfidaaGreatDoorW.PrintWords Go.Proofs.YtfbockgjhbfidaaGreatDoorW.PrintLast Go.Proofs.YtfbockgjhbfidaaGreatDoorW.PrintMore

set_option maxHeartbeats 2000000 in
set_option maxRecDepth 100000 in
theorem indexFunc_St (p : S47 → Bool) (g : FuncId) (caps : Array Value) (B : Nat) (W w : World) (HB : Below B W w) (hBw : B ≤ w.heap.size) (A0 : Option Addr) (c0 : Nat) (l0 : List S47) (hr0 : Kd.C k47 w A0 l0.length l0) (hb : l0.length ≤ 9223372036854775807)
  (eg : ∀ args w, (callFunc g args).run Tryz.prog w = .ok (.enter g args) w)
  (hf : ∀ (x : S47) (A1 : Option Addr) (c1 : Nat) (A2 : Option Addr) (c2 : Nat) (w1 : World), Below B W w1 → x.f0.length ≤ c1 → Kd.C k44 w1 A1 x.f0.length x.f0 → Calls Tryz.prog g (#[.agg #[.slice A1 x.f0.length c1, .slice A2 x.f1.length c2]] ++ caps) w1 fun e w' => e = .returned (.bool (p x)) ∧ Below w1.heap.size w1 w') :
  Calls Tryz.prog 26 #[.slice A0 l0.length c0, .func (.func g) #[] caps] w fun e w' => e = .returned (.int .i64 (firstOf p l0)) ∧ Below w.heap.size w w' := by
 have HR0 := Aside0.mk hr0
 have HF := Aside0.mk hf
 have HB0 := Aside0.mk HB
 have HBW := Aside0.mk hBw
 clear hr0 hf HB hBw
 go_enter Tryz.func26, Tryz.ntmps26
 go_wp2
 go_loopw [5, 8] (fun v5 v8 w' => ∃ (i : Nat), v8 = .int .i64 i ∧ i ≤ l0.length ∧ Aside0 (firstFrom p (l0.drop i) i = firstFrom p l0 0) ∧ Aside0 (Below w.heap.size w w')) (fun _ v8 _ => l0.length - (intOf v8).toNat)
 case atStart => exact ⟨0, rfl, Nat.zero_le _, ⟨by simp⟩, ⟨Below.refl _ _⟩⟩
 case round =>
  obtain ⟨i, rfl, hil, HI, HB1⟩ := hrel
  by_cases hlt : i < l0.length
  ·have hC := Kd.C_below HR0.out HB1.out
   obtain ⟨ai, A1, c1, A2, c2, ei, y0, y1, hc1, hC1, hc2, hC2⟩ := at_T47 hC (i : Nat) (by omega) (by omega)
   cases ei
   obtain ⟨xi, hxi⟩ : ∃ x, x = rd_T47 l0 (i : Nat) := ⟨_, rfl⟩
   have hd : l0.drop i = xi :: l0.drop (i + 1) := by
    rw [List.drop_eq_getElem_cons hlt, hxi]; simp [rd_T47, hlt]
   have hI := HI.out
   rw [hd, firstFrom] at hI
   rw [← hxi] at y0 y1 hc1 hC1
   simp only [Int.toNat_natCast] at y0 y1
   have hI2 := Aside0.mk hI
   have hcall := HF.out xi A1 c1 A2 c2 wr (by exact ⟨HB1.out.os.trans HB0.out.os, HB1.out.tape.trans HB0.out.tape, HB1.out.output.trans HB0.out.output, Nat.le_trans HB0.out.size HB1.out.size, fun k hk => (HB1.out.block k (Nat.lt_of_lt_of_le hk HBW.out)).trans (HB0.out.block k hk)⟩) hc1 hC1
   clear hI hxi hd hC hc1 hC1 hc2 hC2
   cases hp : p xi with
   | true =>
    rw [hp] at hcall
    have HP := Aside0.mk hp
    clear hp
    go_wp2_with (go_at_fn g; refine hcall.mono ?_; rintro e w' ⟨rfl, hb'⟩)
    go_ret
    refine ⟨?_, below_then HB1.out HB1.out.size hb'⟩
    have h := hI2.out
    rw [if_pos HP.out] at h
    unfold firstOf
    rw [← h]
    rfl
   | false =>
    rw [hp] at hcall
    have HP := Aside0.mk hp
    clear hp
    go_wp2_with (go_at_fn g; refine hcall.mono ?_; rintro e w' ⟨rfl, hb'⟩)
    go_roundw
    case rel => exact ⟨i + 1, by go_num, by omega, ⟨by have h := hI2.out; rw [if_neg (by rw [HP.out]; exact Bool.false_ne_true)] at h; exact h⟩, ⟨below_then HB1.out HB1.out.size hb'⟩⟩
    case measure => simp [intOf]; omega
  ·have hI := Aside0.mk (show firstOf p l0 = -1 from by have h := HI.out; rw [List.drop_eq_nil_of_le (by omega)] at h; unfold firstOf; rw [← h]; rfl)
   have hge : l0.length ≤ i := by omega
   clear hlt
   go_wp2
   go_ret
   exact ⟨by rw [hI.out]; rfl, HB1.out⟩

set_option maxHeartbeats 2000000 in
set_option maxRecDepth 100000 in
theorem search_anyP (g : FuncId) (pre caps : Array Value) (B : Nat) (W w : World) (HB : Below B W w) (hBw : B ≤ w.heap.size) (n m : Nat) (hmn : m ≤ n) (hb : n ≤ 1099511627776)
  (eg : ∀ args w, (callFunc g args).run Tryz.prog w = .ok (.enter g args) w)
  (hf : ∀ (i : Nat) (w1 : World), i < n → Below B W w1 → Calls Tryz.prog g (pre ++ #[.int .i64 i] ++ caps) w1 fun e w' => e = .returned (.bool (decide (m ≤ i))) ∧ Below w1.heap.size w1 w') :
  Calls Tryz.prog 29 #[.int .i64 n, .func (.func g) pre caps] w fun e w' => e = .returned (.int .i64 m) ∧ Below w.heap.size w w' := by
 have HF := Aside0.mk hf
 have HB0 := Aside0.mk HB
 have HBW := Aside0.mk hBw
 clear hf HB hBw
 go_enter Tryz.func29, Tryz.ntmps29
 go_wp2
 go_loopw [5, 6] (fun v5 v6 w' => ∃ (i j : Nat), v5 = .int .i64 i ∧ v6 = .int .i64 j ∧ i ≤ m ∧ m ≤ j ∧ j ≤ n ∧ Aside0 (Below w.heap.size w w')) (fun v5 v6 _ => (intOf v6).toNat - (intOf v5).toNat)
 case atStart => exact ⟨0, n, rfl, rfl, Nat.zero_le _, hmn, Nat.le_refl _, ⟨Below.refl _ _⟩⟩
 case round =>
  obtain ⟨i, j, rfl, rfl, him, hmj, hjn, HB1⟩ := hrel
  by_cases hlt : i < j
  ·have hcall := HF.out ((i + j) / 2) wr (by omega) (by exact ⟨HB1.out.os.trans HB0.out.os, HB1.out.tape.trans HB0.out.tape, HB1.out.output.trans HB0.out.output, Nat.le_trans HB0.out.size HB1.out.size, fun k hk => (HB1.out.block k (Nat.lt_of_lt_of_le hk HBW.out)).trans (HB0.out.block k hk)⟩)
   have hmid := Aside0.mk (show (((i + j) / 2 : Nat) : Int) = ((i : Int) + j) / 2 from by omega)
   rw [hmid.out] at hcall
   by_cases hp : m ≤ (i + j) / 2
   ·rw [decide_eq_true hp] at hcall
    have HP := Aside0.mk hp
    clear hp
    go_wp2_with (go_at_fn g; refine hcall.mono ?_; rintro e w4 ⟨rfl, hbd⟩)
    go_roundw
    case rel => exact ⟨i, (i + j) / 2, rfl, by rw [hmid.out], him, HP.out, by omega, ⟨below_then HB1.out HB1.out.size hbd⟩⟩
    case measure => simp [intOf]; omega
   ·rw [decide_eq_false hp] at hcall
    have HP := Aside0.mk hp
    clear hp
    go_wp2_with (go_at_fn g; refine hcall.mono ?_; rintro e w4 ⟨rfl, hbd⟩)
    go_roundw
    case rel => exact ⟨(i + j) / 2 + 1, j, by rw [← hmid.out]; go_num, rfl, by have := HP.out; omega, hmj, hjn, ⟨below_then HB1.out HB1.out.size hbd⟩⟩
    case measure => simp [intOf]; omega
  ·obtain rfl : i = m := by omega
   go_wp2
   go_ret
   exact ⟨rfl, HB1.out⟩
end Go.Proofs.YtfbockgjhbfidaaGreatDoor.Pr
