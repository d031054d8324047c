/- Texts of this session, cut down to what one claim needs and joined: LbURRight. -/
import Derived.Test.YtfbockgjhbfidaaGreatDoorQLbRRight
import Derived.Test.YtfbockgjhbfidaaGreatDoorQGUMk
set_option linter.unusedVariables false
namespace Go.Proofs.YtfbockgjhbfidaaGreatDoor.Pr
open Go.RowKit Go.Proofs.YtfbockgjhbfidaaGreatDoorW.PrintWords

def soundingsref01_Right.f (l0 : List S44) : Option Bool := if smallR l0 then some (rightB l0) else none
theorem soundingsref01_Right.calls (A0 : Option Addr) (c0 : Nat) (l0 : List S44) (r : Bool) (w : World) (hr0 : Kd.C k44 w A0 l0.length l0) (hc0 : l0.length ≤ c0) (h : soundingsref01_Right.f l0 = some r) :
  Calls Tryz.prog 35 #[.slice A0 l0.length c0] w fun e w' => e = .returned (.bool r) ∧ Below w.heap.size w w' := by
 unfold soundingsref01_Right.f at h
 by_cases hs : smallR l0
 ·rw [if_pos hs] at h
  have h3 := Option.some.inj h
  rw [← h3]
  exact rright_any A0 c0 l0 w hr0 hc0 hs
 ·rw [if_neg hs] at h
  cases h
end Go.Proofs.YtfbockgjhbfidaaGreatDoor.Pr
