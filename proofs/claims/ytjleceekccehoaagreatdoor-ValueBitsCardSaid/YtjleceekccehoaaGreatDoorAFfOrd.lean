/- Texts of this session, cut down to what one claim needs and joined: FfOrd. -/
import Derived.Test.YtjleceekccehoaaGreatDoorAFfCmp
set_option linter.unusedVariables false
set_option linter.unusedSimpArgs false
namespace Go.Proofs.YtjleceekccehoaaGreatDoor.Pr
open Go.RowKit Go.Proofs.Fl

end Go.Proofs.YtjleceekccehoaaGreatDoor.Pr
