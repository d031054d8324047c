/-
  DERIVED. GIVEN WITH THE SEED: THE CARDS: each row of YtjleceekccehoaaGreatDoorRows.lean that lists a variable, with what it lists TIED to the program's text (the seventh form; the later family's looks); each row that meets fmt, with fmt's text TOLD by the authors' own Lean function (tested against real Go, not proved from fmt's source: count such statements apart). THE CARD IS WHAT COUNTS. Prove the row's statement (the work); the ties are given (YtjleceekccehoaaGreatDoorTie.lean); close each card by the builder's one call (the guide's Derived/Test/ToyasCard.lean, 'card_holds'). Laid BY PROGRAM, IN A SANDBOX (cutbox-door.mjs). By AI agents, Wed Nov 11 2026. No macro, syntax, notation, axiom, sorry.
-/
import Derived.Test.YtjleceekccehoaaGreatDoorRows
import GoSem.ClaimSeven
namespace Go.Proofs.YtjleceekccehoaaGreatDoor
namespace Rows

/-- THE TIED CARD OF 'soundingslaw04.ValueBits'. -/
def valueBitsCard : Claim7 := { stood := { row := valueBitsRow, standIns := [], harness := (true, "41b6850e3113c875335a8079c2ffe6b4d9178ec6067e8e5aee99e606345b3c5d"), looks := true }, kinds := [], alts := [], laidByText := true, laidKinds := [.data, .data, .widerDeep, .widerDeep, .data, .data, .data, .data, .data, .data, .handle, .sentinel, .sentinel, .pinned, .pinned, .pinned], laidTests := true, laidLooks := .later }
def ValueBitsCardSaid : Prop := Claim7.holds Tryz.pinned (.plain (OpenSpec.ofChange valueBitsSpec)) valueBitsCard

/-- THE TIED CARD OF 'soundingslaw04.ValueOrder'. -/
def valueOrderCard : Claim7 := { stood := { row := valueOrderRow, standIns := [], harness := (true, "41b6850e3113c875335a8079c2ffe6b4d9178ec6067e8e5aee99e606345b3c5d"), looks := true }, kinds := [], alts := [], laidByText := true, laidKinds := [.data, .data, .widerDeep, .widerDeep, .data, .data, .data, .data, .data, .data, .handle, .sentinel, .sentinel, .pinned, .pinned, .pinned], laidTests := true, laidLooks := .later }
def ValueOrderCardSaid : Prop := Claim7.holds Tryz.pinned (.plain (OpenSpec.ofChange valueOrderSpec)) valueOrderCard

/-- THE TIED CARD OF 'soundingslaw08.LexTokens'. -/
def lexTokensCard : Claim7 := { stood := { row := lexTokensRow, standIns := [], harness := (true, "41b6850e3113c875335a8079c2ffe6b4d9178ec6067e8e5aee99e606345b3c5d"), looks := true }, kinds := [], alts := [], laidByText := true, laidKinds := [.data, .data, .widerDeep, .widerDeep, .data, .data, .data, .data, .data, .data, .handle, .sentinel, .sentinel, .listed, .data, .data, .pinned, .pinned, .pinned], laidTests := true, laidLooks := .later }
def LexTokensCardSaid : Prop := Claim7.holds Tryz.pinned (.plain (OpenSpec.ofChange lexTokensSpec)) lexTokensCard

/-- THE TIED CARD OF 'soundingslaw08.LexBlank'. -/
def lexBlankCard : Claim7 := { stood := { row := lexBlankRow, standIns := [], harness := (true, "41b6850e3113c875335a8079c2ffe6b4d9178ec6067e8e5aee99e606345b3c5d"), looks := true }, kinds := [], alts := [], laidByText := true, laidKinds := [.data, .data, .widerDeep, .widerDeep, .data, .data, .data, .data, .data, .data, .handle, .sentinel, .sentinel, .listed, .data, .data, .pinned, .pinned, .pinned], laidTests := true, laidLooks := .later }
def LexBlankCardSaid : Prop := Claim7.holds Tryz.pinned (.plain (OpenSpec.ofChange lexBlankSpec)) lexBlankCard

/-- THE TIED CARD OF 'soundingslaw08.LexParts'. -/
def lexPartsCard : Claim7 := { stood := { row := lexPartsRow, standIns := [], harness := (true, "41b6850e3113c875335a8079c2ffe6b4d9178ec6067e8e5aee99e606345b3c5d"), looks := true }, kinds := [], alts := [], laidByText := true, laidKinds := [.data, .data, .widerDeep, .widerDeep, .data, .data, .data, .data, .data, .data, .handle, .sentinel, .sentinel, .listed, .data, .data, .pinned, .pinned, .pinned], laidTests := true, laidLooks := .later }
def LexPartsCardSaid : Prop := Claim7.holds Tryz.pinned (.plain (OpenSpec.ofChange lexPartsSpec)) lexPartsCard

/-- THE TIED CARD OF 'soundingslaw04.ValueTexts'. -/
def valueTextsCard : Claim7 := { stood := { row := valueTextsRow, standIns := [], harness := (true, "41b6850e3113c875335a8079c2ffe6b4d9178ec6067e8e5aee99e606345b3c5d"), looks := true }, kinds := [], alts := [], laidByText := true, laidKinds := [.data, .data, .widerDeep, .widerDeep, .data, .data, .data, .data, .data, .data, .handle, .sentinel, .sentinel, .pinned, .pinned, .pinned], laidTests := true, laidLooks := .later }
def ValueTextsCardSaid : Prop := Claim7.holds Tryz.pinned (.plain (OpenSpec.ofChange valueTextsSpec)) valueTextsCard

/-- THE SECOND FORM's CARD OF 'soundingslaw04.ValueBits'. -/
def valueBitsUptoCard : Claim7 := { stood := { row := valueBitsUptoRow, standIns := [], harness := (true, "41b6850e3113c875335a8079c2ffe6b4d9178ec6067e8e5aee99e606345b3c5d"), looks := true }, kinds := [], alts := [], laidByText := true, laidKinds := [.data, .data, .widerDeep, .widerDeep, .data, .data, .data, .data, .data, .data, .handle, .sentinel, .sentinel, .pinned, .pinned, .pinned], laidTests := true, laidLooks := .later }
def ValueBitsUptoCardSaid : Prop := Claim7.holds Tryz.pinned (.plain (OpenSpec.upto valueBitsSpec)) valueBitsUptoCard

/-- THE SECOND FORM's CARD OF 'soundingslaw04.ValueOrder'. -/
def valueOrderUptoCard : Claim7 := { stood := { row := valueOrderUptoRow, standIns := [], harness := (true, "41b6850e3113c875335a8079c2ffe6b4d9178ec6067e8e5aee99e606345b3c5d"), looks := true }, kinds := [], alts := [], laidByText := true, laidKinds := [.data, .data, .widerDeep, .widerDeep, .data, .data, .data, .data, .data, .data, .handle, .sentinel, .sentinel, .pinned, .pinned, .pinned], laidTests := true, laidLooks := .later }
def ValueOrderUptoCardSaid : Prop := Claim7.holds Tryz.pinned (.plain (OpenSpec.upto valueOrderSpec)) valueOrderUptoCard

/-- THE SECOND FORM's CARD OF 'soundingslaw08.LexTokens'. -/
def lexTokensUptoCard : Claim7 := { stood := { row := lexTokensUptoRow, standIns := [], harness := (true, "41b6850e3113c875335a8079c2ffe6b4d9178ec6067e8e5aee99e606345b3c5d"), looks := true }, kinds := [], alts := [], laidByText := true, laidKinds := [.data, .data, .widerDeep, .widerDeep, .data, .data, .data, .data, .data, .data, .handle, .sentinel, .sentinel, .listed, .data, .data, .pinned, .pinned, .pinned], laidTests := true, laidLooks := .later }
def LexTokensUptoCardSaid : Prop := Claim7.holds Tryz.pinned (.plain (OpenSpec.upto lexTokensSpec)) lexTokensUptoCard

/-- THE SECOND FORM's CARD OF 'soundingslaw08.LexBlank'. -/
def lexBlankUptoCard : Claim7 := { stood := { row := lexBlankUptoRow, standIns := [], harness := (true, "41b6850e3113c875335a8079c2ffe6b4d9178ec6067e8e5aee99e606345b3c5d"), looks := true }, kinds := [], alts := [], laidByText := true, laidKinds := [.data, .data, .widerDeep, .widerDeep, .data, .data, .data, .data, .data, .data, .handle, .sentinel, .sentinel, .listed, .data, .data, .pinned, .pinned, .pinned], laidTests := true, laidLooks := .later }
def LexBlankUptoCardSaid : Prop := Claim7.holds Tryz.pinned (.plain (OpenSpec.upto lexBlankSpec)) lexBlankUptoCard

/-- THE SECOND FORM's CARD OF 'soundingslaw08.LexParts'. -/
def lexPartsUptoCard : Claim7 := { stood := { row := lexPartsUptoRow, standIns := [], harness := (true, "41b6850e3113c875335a8079c2ffe6b4d9178ec6067e8e5aee99e606345b3c5d"), looks := true }, kinds := [], alts := [], laidByText := true, laidKinds := [.data, .data, .widerDeep, .widerDeep, .data, .data, .data, .data, .data, .data, .handle, .sentinel, .sentinel, .listed, .data, .data, .pinned, .pinned, .pinned], laidTests := true, laidLooks := .later }
def LexPartsUptoCardSaid : Prop := Claim7.holds Tryz.pinned (.plain (OpenSpec.upto lexPartsSpec)) lexPartsUptoCard

/-- THE SECOND FORM's CARD OF 'soundingslaw04.ValueTexts'. -/
def valueTextsUptoCard : Claim7 := { stood := { row := valueTextsUptoRow, standIns := [], harness := (true, "41b6850e3113c875335a8079c2ffe6b4d9178ec6067e8e5aee99e606345b3c5d"), looks := true }, kinds := [], alts := [], laidByText := true, laidKinds := [.data, .data, .widerDeep, .widerDeep, .data, .data, .data, .data, .data, .data, .handle, .sentinel, .sentinel, .pinned, .pinned, .pinned], laidTests := true, laidLooks := .later }
def ValueTextsUptoCardSaid : Prop := Claim7.holds Tryz.pinned (.plain (OpenSpec.upto valueTextsSpec)) valueTextsUptoCard
end Rows
end Go.Proofs.YtjleceekccehoaaGreatDoor
