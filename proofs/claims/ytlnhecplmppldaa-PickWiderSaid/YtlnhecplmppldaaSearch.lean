import Derived.Test.YtlnhecplmppldaaPr0
import Derived.Test.YtlnhecplmppldaaFK
import Derived.WalkKit
import Derived.WalkSpells
import Derived.WalkLawsBesides
import Derived.Deep.QuietTactic
import Derived.Deep.RegionHeld3
import Derived.Deep.RegionHeldLaw
import Derived.Deep.DeepCutAuto
import Derived.BigQuiet
import Derived.RegionTactic
import Derived.BigRegion
import Derived.Outline
import Derived.Shelf.Abstract
set_option linter.unusedVariables false
set_option linter.unusedSimpArgs false
namespace Go.Proofs.Ytlnhecplmppldaa.Pr
open Go.RowKit Go.Proofs.Fl Go.Proofs.YtlnhecplmppldaaW.PrintWords Go.Proofs.YtlnhecplmppldaaW.PrintLast Go.Proofs.YtlnhecplmppldaaW.PrintMore


set_option maxHeartbeats 2000000 in
set_option maxRecDepth 100000 in
theorem search_any (g : FuncId) (caps : Array Value) (B : Nat) (W w : World) (HB : Below B W w) (hBw : B ≤ w.heap.size) (n m : Nat) (hmn : m ≤ n) (hb : n ≤ 1099511627776)
    (eg : ∀ args w, (callFunc g args).run Try.prog w = .ok (.enter g args) w)
    (hf : ∀ (i : Nat) (w1 : World), i < n → Below B W w1 → Calls Try.prog g (#[.int .i64 i] ++ caps) w1 fun e w' => e = .returned (.bool (decide (m ≤ i))) ∧ Below w1.heap.size w1 w') :
    Calls Try.prog 43 #[.int .i64 n, .func (.func g) #[] caps] w fun e w' => e = .returned (.int .i64 m) ∧ Below w.heap.size w w' := by
  have HF := Aside0.mk hf
  have HB0 := Aside0.mk HB
  have HBW := Aside0.mk hBw
  clear hf HB hBw
  go_enter Try.func43, Try.ntmps43
  go_wp2
  go_loopw [5, 6] (fun v5 v6 w' => ∃ (i j : Nat), v5 = .int .i64 i ∧ v6 = .int .i64 j ∧ i ≤ m ∧ m ≤ j ∧ j ≤ n ∧ Aside0 (Below w.heap.size w w')) (fun v5 v6 _ => (intOf v6).toNat - (intOf v5).toNat)
  case atStart => exact ⟨0, n, rfl, rfl, Nat.zero_le _, hmn, Nat.le_refl _, ⟨Below.refl _ _⟩⟩
  case round =>
    obtain ⟨i, j, rfl, rfl, him, hmj, hjn, HB1⟩ := hrel
    by_cases hlt : i < j
    · have hcall := HF.out ((i + j) / 2) wr (by omega) (by exact ⟨HB1.out.os.trans HB0.out.os, HB1.out.tape.trans HB0.out.tape, HB1.out.output.trans HB0.out.output, Nat.le_trans HB0.out.size HB1.out.size, fun k hk => (HB1.out.block k (Nat.lt_of_lt_of_le hk HBW.out)).trans (HB0.out.block k hk)⟩)
      have hmid := Aside0.mk (show (((i + j) / 2 : Nat) : Int) = ((i : Int) + j) / 2 from by omega)
      rw [hmid.out] at hcall
      by_cases hp : m ≤ (i + j) / 2
      · rw [decide_eq_true hp] at hcall
        have HP := Aside0.mk hp
        clear hp
        go_wp2_with (go_at_fn g; refine hcall.mono ?_; rintro e w4 ⟨rfl, hbd⟩)
        go_roundw
        case rel => exact ⟨i, (i + j) / 2, rfl, by rw [hmid.out], him, HP.out, by omega, ⟨below_then HB1.out HB1.out.size hbd⟩⟩
        case measure => simp [intOf]; omega
      · rw [decide_eq_false hp] at hcall
        have HP := Aside0.mk hp
        clear hp
        go_wp2_with (go_at_fn g; refine hcall.mono ?_; rintro e w4 ⟨rfl, hbd⟩)
        go_roundw
        case rel => exact ⟨(i + j) / 2 + 1, j, by rw [← hmid.out]; go_num, rfl, by have := HP.out; omega, hmj, hjn, ⟨below_then HB1.out HB1.out.size hbd⟩⟩
        case measure => simp [intOf]; omega
    · obtain rfl : i = m := by omega
      go_wp2
      go_ret
      exact ⟨rfl, HB1.out⟩

end Go.Proofs.Ytlnhecplmppldaa.Pr
