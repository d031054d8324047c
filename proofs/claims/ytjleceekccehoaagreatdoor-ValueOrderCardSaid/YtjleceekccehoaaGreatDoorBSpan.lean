/- Texts of this session, cut down to what one claim needs and joined: Span. -/
import Derived.Test.YtjleceekccehoaaGreatDoorBGAs
import Derived.WalkMore
import Derived.Lib.PathFns
set_option linter.unusedVariables false
set_option linter.unusedSimpArgs false
namespace Go.Proofs.YtjleceekccehoaaGreatDoor.Pr
open Go.RowKit Go.Proofs.YtjleceekccehoaaGreatDoorW.PrintWords Go.Proofs.YtjleceekccehoaaGreatDoorW.PrintLast Go.Proofs.YtjleceekccehoaaGreatDoorW.PrintMore

def bs (l : List UInt8) : ByteArray := ⟨l.toArray⟩
theorem bs_size (l : List UInt8) : (bs l).size = l.length := by simp [bs, ByteArray.size]
theorem bs_drop (l : List UInt8) (k : Nat) : (bs l).extract k (bs l).size = bs (l.drop k) := by rw [Go.Lib.Pa.extract_from]; rfl
theorem bs_drop' (l : List UInt8) (k : Nat) : (bs l).extract k l.length = bs (l.drop k) := by rw [← bs_size l, bs_drop]
end Go.Proofs.YtjleceekccehoaaGreatDoor.Pr
