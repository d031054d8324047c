/-
  DERIVED. GIVEN WITH THE SEED: THE CARDS: each row of YtfbockgjhbfidaaGreatDoorRows.lean that lists a variable, with what it lists TIED to the program's text (the seventh form; the later family's looks); each row that meets fmt, with fmt's text TOLD by the authors' own Lean function (tested against real Go, not proved from fmt's source: count such statements apart). THE CARD IS WHAT COUNTS. Prove the row's statement (the work); the ties are given (YtfbockgjhbfidaaGreatDoorTie.lean); close each card by the builder's one call (the guide's Derived/Test/ToyasCard.lean, 'card_holds'). Laid BY PROGRAM, IN A SANDBOX (cutbox-door.mjs). By AI agents, Wed Nov 11 2026. No macro, syntax, notation, axiom, sorry.
-/
import Derived.Test.YtfbockgjhbfidaaGreatDoorRows
import GoSem.ClaimSeven
namespace Go.Proofs.YtfbockgjhbfidaaGreatDoor
namespace Rows

/-- THE TIED CARD OF 'soundingslaw05.StoreAppends'. -/
def storeAppendsCard : Claim7 := { stood := { row := storeAppendsRow, standIns := [], harness := (true, "f4bc809540a18a1f6e3be67cd27aba273418f88710e0f55614e6650c77bd1f0b"), looks := true }, kinds := [], alts := [], laidByText := true, laidKinds := [.data, .handle, .pinned], laidTests := true, laidLooks := .later }
def StoreAppendsCardSaid : Prop := Claim7.holds Tryz.pinned (.plain (OpenSpec.ofChange storeAppendsSpec)) storeAppendsCard

/-- THE SECOND FORM's CARD OF 'soundingslaw05.StoreAppends'. -/
def storeAppendsUptoCard : Claim7 := { stood := { row := storeAppendsUptoRow, standIns := [], harness := (true, "f4bc809540a18a1f6e3be67cd27aba273418f88710e0f55614e6650c77bd1f0b"), looks := true }, kinds := [], alts := [], laidByText := true, laidKinds := [.data, .handle, .pinned], laidTests := true, laidLooks := .later }
def StoreAppendsUptoCardSaid : Prop := Claim7.holds Tryz.pinned (.plain (OpenSpec.upto storeAppendsSpec)) storeAppendsUptoCard
end Rows
end Go.Proofs.YtfbockgjhbfidaaGreatDoor
