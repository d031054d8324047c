/- Texts of this session, cut down to what one claim needs and joined: LbLaid, LbUMay, LbUCode. -/
import Derived.Test.YtfbockgjhbfidaaGreatDoorQGAs
import Derived.Test.YtfbockgjhbfidaaGreatDoorQGVal
section
set_option linter.unusedVariables false
namespace Go.Proofs.YtfbockgjhbfidaaGreatDoor.Pr
open Go.RowKit Go.Proofs.YtfbockgjhbfidaaGreatDoorW.PrintWords

def LaidAll (w : World) : Prop := LaidE w ∧ LaidV w
theorem LaidAll.below {w w' : World} (h : LaidAll w) (hb : Below w.heap.size w w') : LaidAll w' := ⟨h.1.below hb, h.2.below hb⟩
end Go.Proofs.YtfbockgjhbfidaaGreatDoor.Pr
end

section
set_option linter.unusedVariables false
namespace Go.Proofs.YtfbockgjhbfidaaGreatDoor.Pr
open Go.RowKit Go.Proofs.YtfbockgjhbfidaaGreatDoorW.PrintWords

def label_may.f (f0 f1 : ByteArray) : Option Bool := if f1.size ≤ 9223372036854775807 then some (mayB ⟨f0, f1⟩) else none
theorem label_may.calls (f0 f1 : ByteArray) (r : Bool) (w : World) (hL_ : Aside0 (LaidAll w)) (h : label_may.f f0 f1 = some r) :
  Calls Tryz.prog 39 #[.agg #[.string f0, .string f1]] w fun e w' => e = .returned (.bool r) ∧ Below w.heap.size w w' := by
 unfold label_may.f at h
 split at h
 ·rename_i hs
  obtain rfl := Option.some.inj h
  exact may_any ⟨f0, f1⟩ hs w hL_.out.2
 ·cases h
end Go.Proofs.YtfbockgjhbfidaaGreatDoor.Pr
end

section
set_option linter.unusedVariables false
namespace Go.Proofs.YtfbockgjhbfidaaGreatDoor.Pr
open Go.RowKit Go.Proofs.YtfbockgjhbfidaaGreatDoorW.PrintWords

def soundingslaw01_Code.f : Option Int → Option Int
 | none => some 0
 | some n => if 0 < n then some n else none
theorem soundingslaw01_Code.calls (e0 : Option Int) (r : Int) (w : World) (hL_ : Aside0 (LaidAll w)) (h : soundingslaw01_Code.f e0 = some r) :
  Calls Tryz.prog 12 #[errW e0] w fun e w' => e = .returned (.int .i64 r) ∧ Below w.heap.size w w' := by
 cases e0 with
 | none =>
  obtain rfl := Option.some.inj h
  exact code_nil w
 | some n =>
  have h2 : (if 0 < n then some n else none) = some r := h
  clear h
  by_cases hn : 0 < n
  ·rw [if_pos hn] at h2
   have h3 := Option.some.inj h2
   clear h2
   rw [← h3]
   exact code_hit n hn w hL_.out.1
  ·rw [if_neg hn] at h2
   cases h2
end Go.Proofs.YtfbockgjhbfidaaGreatDoor.Pr
end
