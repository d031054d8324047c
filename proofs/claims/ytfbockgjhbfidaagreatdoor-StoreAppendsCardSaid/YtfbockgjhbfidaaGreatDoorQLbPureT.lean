/- Texts of this session, cut down to what one claim needs and joined: LbPureT. -/
import Derived.Test.YtfbockgjhbfidaaGreatDoorQGPure
import Derived.Test.YtfbockgjhbfidaaGreatDoorQLbURRight
set_option linter.unusedVariables false
set_option linter.unusedSimpArgs false
namespace Go.Proofs.YtfbockgjhbfidaaGreatDoor.Pr
open Go.RowKit Go.Proofs.YtfbockgjhbfidaaGreatDoorW.PrintWords

theorem refRight_some {l : List S44} (h : smallR l) : soundingsref01_Right.f l = some (rightB l) := by unfold soundingsref01_Right.f; rw [if_pos h]
theorem short_smallR {l : List S44} (h : shortB l = true) : smallR l := by
 unfold shortB at h
 rw [Bool.and_eq_true, List.all_eq_true, decide_eq_true_eq] at h
 refine ⟨by omega, fun x hx => ?_⟩
 have := h.1 x hx; unfold shortX at this; rw [Bool.and_eq_true, decide_eq_true_eq, decide_eq_true_eq] at this; omega
end Go.Proofs.YtfbockgjhbfidaaGreatDoor.Pr
