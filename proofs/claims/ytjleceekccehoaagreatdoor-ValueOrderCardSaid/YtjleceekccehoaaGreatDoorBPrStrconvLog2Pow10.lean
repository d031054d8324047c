/- Texts of this session, cut down to what one claim needs and joined: PrStrconvLog2Pow10. -/
import Derived.Test.YtjleceekccehoaaGreatDoorBPr0
-- Written by a program of this session (wip/hook.py) out of the translation. Not trusted: Lean checks it.
namespace Go.Proofs.YtjleceekccehoaaGreatDoor.Pr
open Go.RowKit Go.Proofs.YtjleceekccehoaaGreatDoorW.PrintWords Go.Proofs.YtjleceekccehoaaGreatDoorW.PrintLast Go.Proofs.YtjleceekccehoaaGreatDoorW.PrintMore
attribute [local go_sem] max2_int min2_int max_two min_two max_three min_three max_four min_four   -- for this text's walks alone
set_option linter.unusedVariables false
set_option linter.unusedSimpArgs false

/-! ### strconv_log2Pow10: function 132 -/
def strconv_log2Pow10.f (a0 : Int) : Option (Int) := some ((wrap64 (a0 * 108853)) / 32768)
set_option maxHeartbeats 8000000 in
set_option maxRecDepth 100000 in
theorem strconv_log2Pow10.calls (a0 : Int) (r : Int) (w : World) (h : strconv_log2Pow10.f a0 = some r) :
    Calls Tryz.prog 132 #[.int .i64 a0] w fun e w' => e = .returned (.int .i64 r) ∧ Drawn0 w w' := by
  have H : (some ((wrap64 (a0 * 108853)) / 32768)) = some r := h
  clear h
  obtain rfl := Option.some.inj H
  go_enter Tryz.func132, Tryz.ntmps132
  go_wp2
  go_ret
  exact ⟨by first | rfl | (simp; done) | (simp [*]; done), by repeat (first | exact Drawn0.refl _ | apply Drawn0.step)⟩

end Go.Proofs.YtjleceekccehoaaGreatDoor.Pr
