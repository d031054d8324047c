/- Texts of this session, cut down to what one claim needs and joined: FfLaw2. -/
import Derived.Test.YtjleceekccehoaaGreatDoorAFfLaw
set_option linter.unusedVariables false
set_option linter.unusedSimpArgs false
namespace Go.Proofs.YtjleceekccehoaaGreatDoor.Pr
open Go.RowKit Go.Proofs.Fl Go.Proofs.YtjleceekccehoaaGreatDoorW.PrintWords Go.Proofs.YtjleceekccehoaaGreatDoorW.PrintLast Go.Proofs.YtjleceekccehoaaGreatDoorW.PrintMore

end Go.Proofs.YtjleceekccehoaaGreatDoor.Pr
