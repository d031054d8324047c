/- Texts of this session, cut down to what one claim needs and joined: PrSoundingsref04IsNone. -/
import Derived.Test.YtjleceekccehoaaGreatDoorBPr0
-- Written by a program of this session (wip/hook.py) out of the translation. Not trusted: Lean checks it.
namespace Go.Proofs.YtjleceekccehoaaGreatDoor.Pr
open Go.RowKit Go.Proofs.YtjleceekccehoaaGreatDoorW.PrintWords Go.Proofs.YtjleceekccehoaaGreatDoorW.PrintLast Go.Proofs.YtjleceekccehoaaGreatDoorW.PrintMore
attribute [local go_sem] max2_int min2_int max_two min_two max_three min_three max_four min_four   -- for this text's walks alone
set_option linter.unusedVariables false
set_option linter.unusedSimpArgs false

/-! ### soundingsref04_IsNone: function 25 -/
def soundingsref04_IsNone.f (a0 : Int) : Option (Bool) := if (Int.tmod (IntKind.u64.wrap (Int.tdiv a0 4503599627370496)) 2048) = 2047 then (some ((Int.tmod a0 4503599627370496) != 0)) else (some false)
set_option maxHeartbeats 8000000 in
set_option maxRecDepth 100000 in
theorem soundingsref04_IsNone.calls (a0 : Int) (r : Bool) (w : World) (h : soundingsref04_IsNone.f a0 = some r) :
    Calls Tryz.prog 25 #[.int .u64 a0] w fun e w' => e = .returned (.bool r) ∧ Drawn0 w w' := by
  have H : (if (Int.tmod (IntKind.u64.wrap (Int.tdiv a0 4503599627370496)) 2048) = 2047 then (some ((Int.tmod a0 4503599627370496) != 0)) else (some false)) = some r := h
  clear h
  by_cases c2 : (Int.tmod (IntKind.u64.wrap (Int.tdiv a0 4503599627370496)) 2048) = 2047
  · rw [if_pos c2] at H
    have c2b0 : ((Int.tmod (IntKind.u64.wrap (Int.tdiv a0 4503599627370496)) 2048) == 2047) = true := beq_iff_eq.mpr c2
    have c2b1 : ((Int.tmod (IntKind.u64.wrap (Int.tdiv a0 4503599627370496)) 2048) != 2047) = false := bne_eq_false_iff_eq.mpr c2
    clear c2
    obtain rfl := Option.some.inj H
    go_enter Tryz.func25, Tryz.ntmps25
    go_wp2
    go_ret
    exact ⟨by first | rfl | (simp; done) | (simp [*]; done), by repeat (first | exact Drawn0.refl _ | apply Drawn0.step)⟩
  · rw [if_neg c2] at H
    have c2b0 : ((Int.tmod (IntKind.u64.wrap (Int.tdiv a0 4503599627370496)) 2048) == 2047) = false := beq_eq_false_iff_ne.mpr c2
    have c2b1 : ((Int.tmod (IntKind.u64.wrap (Int.tdiv a0 4503599627370496)) 2048) != 2047) = true := bne_iff_ne.mpr c2
    obtain rfl := Option.some.inj H
    go_enter Tryz.func25, Tryz.ntmps25
    go_wp2
    go_ret
    exact ⟨by first | rfl | (simp; done) | (simp [*]; done), by repeat (first | exact Drawn0.refl _ | apply Drawn0.step)⟩

end Go.Proofs.YtjleceekccehoaaGreatDoor.Pr
