/-
  DERIVED. GIVEN WITH THE SEED: THE CARDS: each row of YtfbockgjhbfidaaDoorRows.lean that lists a variable, with what it lists TIED to the program's text (the seventh form; the later family's looks); each row that meets fmt, with fmt's text TOLD by the authors' own Lean function (tested against real Go, not proved from fmt's source: count such statements apart). THE CARD IS WHAT COUNTS. Prove the row's statement (the work); the ties are given (YtfbockgjhbfidaaDoorTie.lean); close each card by the builder's one call (the guide's Derived/Test/ToyasCard.lean, 'card_holds'). Laid BY PROGRAM, IN A SANDBOX (cutbox-door.mjs). By AI agents, Wed Nov 11 2026. No macro, syntax, notation, axiom, sorry.
-/
import Derived.Test.YtfbockgjhbfidaaDoorRows
import GoSem.ClaimSeven
namespace Go.Proofs.YtfbockgjhbfidaaDoor
namespace Rows

/-- THE TIED CARD OF 'soundingslaw02.RegexLong'. -/
def regexLongCard : Claim7 := { stood := { row := regexLongRow, standIns := [], harness := (true, "df8924c46536f525598c9a8661f8b1013ca51fb7557b31b60e35e1cb3e46ea81"), looks := true }, kinds := [], alts := [], laidByText := true, laidKinds := [.handle], laidTests := true, laidLooks := .later }
def RegexLongCardSaid : Prop := Claim7.holds Tryd.pinned (.plain (OpenSpec.ofChange regexLongSpec)) regexLongCard

/-- THE TIED CARD OF 'soundingslaw01.LabelMakes'. -/
def labelMakesCard : Claim7 := { stood := { row := labelMakesRow, standIns := [], harness := (true, "df8924c46536f525598c9a8661f8b1013ca51fb7557b31b60e35e1cb3e46ea81"), looks := true }, kinds := [], alts := [], laidByText := true, laidKinds := [.data, .handle, .pinned], laidTests := true, laidLooks := .later }
def LabelMakesCardSaid : Prop := Claim7.holds Tryd.pinned (.plain (OpenSpec.ofChange labelMakesSpec)) labelMakesCard

/-- THE TIED CARD OF 'soundingslaw01.LabelOrder'. -/
def labelOrderCard : Claim7 := { stood := { row := labelOrderRow, standIns := [], harness := (true, "df8924c46536f525598c9a8661f8b1013ca51fb7557b31b60e35e1cb3e46ea81"), looks := true }, kinds := [], alts := [], laidByText := true, laidKinds := [.data, .handle, .pinned], laidTests := true, laidLooks := .later }
def LabelOrderCardSaid : Prop := Claim7.holds Tryd.pinned (.plain (OpenSpec.ofChange labelOrderSpec)) labelOrderCard

/-- THE TIED CARD OF 'soundingslaw01.LabelParts'. -/
def labelPartsCard : Claim7 := { stood := { row := labelPartsRow, standIns := [], harness := (true, "df8924c46536f525598c9a8661f8b1013ca51fb7557b31b60e35e1cb3e46ea81"), looks := true }, kinds := [], alts := [], laidByText := true, laidKinds := [.data, .handle, .pinned], laidTests := true, laidLooks := .later }
def LabelPartsCardSaid : Prop := Claim7.holds Tryd.pinned (.plain (OpenSpec.ofChange labelPartsSpec)) labelPartsCard

/-- THE TIED CARD OF 'soundingslaw01.LabelAgain'. -/
def labelAgainCard : Claim7 := { stood := { row := labelAgainRow, standIns := [], harness := (true, "df8924c46536f525598c9a8661f8b1013ca51fb7557b31b60e35e1cb3e46ea81"), looks := true }, kinds := [], alts := [], laidByText := true, laidKinds := [.data, .handle, .pinned], laidTests := true, laidLooks := .later }
def LabelAgainCardSaid : Prop := Claim7.holds Tryd.pinned (.plain (OpenSpec.ofChange labelAgainSpec)) labelAgainCard

/-- THE TIED CARD OF 'soundingslaw05.StoreAny'. -/
def storeAnyCard : Claim7 := { stood := { row := storeAnyRow, standIns := [], harness := (true, "df8924c46536f525598c9a8661f8b1013ca51fb7557b31b60e35e1cb3e46ea81"), looks := true }, kinds := [], alts := [], laidByText := true, laidKinds := [.data, .handle, .pinned], laidTests := true, laidLooks := .later }
def StoreAnyCardSaid : Prop := Claim7.holds Tryd.pinned (.plain (OpenSpec.ofChange storeAnySpec)) storeAnyCard

/-- THE TIED CARD OF 'soundingslaw03.MatcherTurned'. -/
def matcherTurnedCard : Claim7 := { stood := { row := matcherTurnedRow, standIns := [], harness := (true, "df8924c46536f525598c9a8661f8b1013ca51fb7557b31b60e35e1cb3e46ea81"), looks := true }, kinds := [], alts := [], laidByText := true, laidKinds := [.data, .pinned], laidTests := true, laidLooks := .later }
def MatcherTurnedCardSaid : Prop := Claim7.holds Tryd.pinned (.plain (OpenSpec.ofChange matcherTurnedSpec)) matcherTurnedCard

/-- THE TIED CARD OF 'soundingslaw05.StoreGrows'. -/
def storeGrowsCard : Claim7 := { stood := { row := storeGrowsRow, standIns := [], harness := (true, "df8924c46536f525598c9a8661f8b1013ca51fb7557b31b60e35e1cb3e46ea81"), looks := true }, kinds := [], alts := [], laidByText := true, laidKinds := [.data, .handle, .pinned], laidTests := true, laidLooks := .later }
def StoreGrowsCardSaid : Prop := Claim7.holds Tryd.pinned (.plain (OpenSpec.ofChange storeGrowsSpec)) storeGrowsCard

/-- THE TIED CARD OF 'soundingslaw03.MatcherParts'. -/
def matcherPartsCard : Claim7 := { stood := { row := matcherPartsRow, standIns := [], harness := (true, "df8924c46536f525598c9a8661f8b1013ca51fb7557b31b60e35e1cb3e46ea81"), looks := true }, kinds := [], alts := [], laidByText := true, laidKinds := [.data, .pinned], laidTests := true, laidLooks := .later }
def MatcherPartsCardSaid : Prop := Claim7.holds Tryd.pinned (.plain (OpenSpec.ofChange matcherPartsSpec)) matcherPartsCard

/-- THE SECOND FORM's CARD OF 'soundingslaw02.RegexLong'. -/
def regexLongUptoCard : Claim7 := { stood := { row := regexLongUptoRow, standIns := [], harness := (true, "df8924c46536f525598c9a8661f8b1013ca51fb7557b31b60e35e1cb3e46ea81"), looks := true }, kinds := [], alts := [], laidByText := true, laidKinds := [.handle], laidTests := true, laidLooks := .later }
def RegexLongUptoCardSaid : Prop := Claim7.holds Tryd.pinned (.plain (OpenSpec.upto regexLongSpec)) regexLongUptoCard

/-- THE SECOND FORM's CARD OF 'soundingslaw01.LabelMakes'. -/
def labelMakesUptoCard : Claim7 := { stood := { row := labelMakesUptoRow, standIns := [], harness := (true, "df8924c46536f525598c9a8661f8b1013ca51fb7557b31b60e35e1cb3e46ea81"), looks := true }, kinds := [], alts := [], laidByText := true, laidKinds := [.data, .handle, .pinned], laidTests := true, laidLooks := .later }
def LabelMakesUptoCardSaid : Prop := Claim7.holds Tryd.pinned (.plain (OpenSpec.upto labelMakesSpec)) labelMakesUptoCard

/-- THE SECOND FORM's CARD OF 'soundingslaw01.LabelOrder'. -/
def labelOrderUptoCard : Claim7 := { stood := { row := labelOrderUptoRow, standIns := [], harness := (true, "df8924c46536f525598c9a8661f8b1013ca51fb7557b31b60e35e1cb3e46ea81"), looks := true }, kinds := [], alts := [], laidByText := true, laidKinds := [.data, .handle, .pinned], laidTests := true, laidLooks := .later }
def LabelOrderUptoCardSaid : Prop := Claim7.holds Tryd.pinned (.plain (OpenSpec.upto labelOrderSpec)) labelOrderUptoCard

/-- THE SECOND FORM's CARD OF 'soundingslaw01.LabelParts'. -/
def labelPartsUptoCard : Claim7 := { stood := { row := labelPartsUptoRow, standIns := [], harness := (true, "df8924c46536f525598c9a8661f8b1013ca51fb7557b31b60e35e1cb3e46ea81"), looks := true }, kinds := [], alts := [], laidByText := true, laidKinds := [.data, .handle, .pinned], laidTests := true, laidLooks := .later }
def LabelPartsUptoCardSaid : Prop := Claim7.holds Tryd.pinned (.plain (OpenSpec.upto labelPartsSpec)) labelPartsUptoCard

/-- THE SECOND FORM's CARD OF 'soundingslaw01.LabelAgain'. -/
def labelAgainUptoCard : Claim7 := { stood := { row := labelAgainUptoRow, standIns := [], harness := (true, "df8924c46536f525598c9a8661f8b1013ca51fb7557b31b60e35e1cb3e46ea81"), looks := true }, kinds := [], alts := [], laidByText := true, laidKinds := [.data, .handle, .pinned], laidTests := true, laidLooks := .later }
def LabelAgainUptoCardSaid : Prop := Claim7.holds Tryd.pinned (.plain (OpenSpec.upto labelAgainSpec)) labelAgainUptoCard

/-- THE SECOND FORM's CARD OF 'soundingslaw05.StoreAny'. -/
def storeAnyUptoCard : Claim7 := { stood := { row := storeAnyUptoRow, standIns := [], harness := (true, "df8924c46536f525598c9a8661f8b1013ca51fb7557b31b60e35e1cb3e46ea81"), looks := true }, kinds := [], alts := [], laidByText := true, laidKinds := [.data, .handle, .pinned], laidTests := true, laidLooks := .later }
def StoreAnyUptoCardSaid : Prop := Claim7.holds Tryd.pinned (.plain (OpenSpec.upto storeAnySpec)) storeAnyUptoCard

/-- THE SECOND FORM's CARD OF 'soundingslaw03.MatcherTurned'. -/
def matcherTurnedUptoCard : Claim7 := { stood := { row := matcherTurnedUptoRow, standIns := [], harness := (true, "df8924c46536f525598c9a8661f8b1013ca51fb7557b31b60e35e1cb3e46ea81"), looks := true }, kinds := [], alts := [], laidByText := true, laidKinds := [.data, .pinned], laidTests := true, laidLooks := .later }
def MatcherTurnedUptoCardSaid : Prop := Claim7.holds Tryd.pinned (.plain (OpenSpec.upto matcherTurnedSpec)) matcherTurnedUptoCard

/-- THE SECOND FORM's CARD OF 'soundingslaw05.StoreGrows'. -/
def storeGrowsUptoCard : Claim7 := { stood := { row := storeGrowsUptoRow, standIns := [], harness := (true, "df8924c46536f525598c9a8661f8b1013ca51fb7557b31b60e35e1cb3e46ea81"), looks := true }, kinds := [], alts := [], laidByText := true, laidKinds := [.data, .handle, .pinned], laidTests := true, laidLooks := .later }
def StoreGrowsUptoCardSaid : Prop := Claim7.holds Tryd.pinned (.plain (OpenSpec.upto storeGrowsSpec)) storeGrowsUptoCard

/-- THE SECOND FORM's CARD OF 'soundingslaw03.MatcherParts'. -/
def matcherPartsUptoCard : Claim7 := { stood := { row := matcherPartsUptoRow, standIns := [], harness := (true, "df8924c46536f525598c9a8661f8b1013ca51fb7557b31b60e35e1cb3e46ea81"), looks := true }, kinds := [], alts := [], laidByText := true, laidKinds := [.data, .pinned], laidTests := true, laidLooks := .later }
def MatcherPartsUptoCardSaid : Prop := Claim7.holds Tryd.pinned (.plain (OpenSpec.upto matcherPartsSpec)) matcherPartsUptoCard
end Rows
end Go.Proofs.YtfbockgjhbfidaaDoor
