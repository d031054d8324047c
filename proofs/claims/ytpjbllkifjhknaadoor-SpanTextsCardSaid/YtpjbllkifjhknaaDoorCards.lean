/-
  DERIVED. GIVEN WITH THE SEED: THE CARDS: each row of YtpjbllkifjhknaaDoorRows.lean that lists a variable, with what it lists TIED to the program's text (the seventh form; the later family's looks); each row that meets fmt, with fmt's text TOLD by the authors' own Lean function (tested against real Go, not proved from fmt's source: count such statements apart). THE CARD IS WHAT COUNTS. Prove the row's statement (the work); the ties are given (YtpjbllkifjhknaaDoorTie.lean); close each card by the builder's one call (the guide's Derived/Test/ToyasCard.lean, 'card_holds'). Laid BY PROGRAM, IN A SANDBOX (cutbox-door.mjs). By AI agents, Wed Nov 11 2026. No macro, syntax, notation, axiom, sorry.
-/
import Derived.Test.YtpjbllkifjhknaaDoorRows
import GoSem.ClaimSeven
namespace Go.Proofs.YtpjbllkifjhknaaDoor
namespace Rows

/-- THE TIED CARD OF 'soundingslaw07.SpanParses'. -/
def spanParsesCard : Claim7 := { stood := { row := spanParsesRow, standIns := [], harness := (true, "24bf23afd084517cc65e30997a454a21bcf93539bc735a840e3244f5f8b5c31f"), looks := true }, kinds := [], alts := [], laidByText := true, laidKinds := [.data, .data, .data, .data, .handle, .data, .pinned], laidTests := true, laidLooks := .later }
def SpanParsesCardSaid : Prop := Claim7.holds Tryd.pinned (.plain (OpenSpec.ofChange spanParsesSpec)) spanParsesCard

/-- THE TIED CARD OF 'soundingslaw07.SpanTexts'. -/
def spanTextsCard : Claim7 := { stood := { row := spanTextsRow, standIns := [], harness := (true, "24bf23afd084517cc65e30997a454a21bcf93539bc735a840e3244f5f8b5c31f"), looks := true }, kinds := [], alts := [], laidByText := true, laidKinds := [.data, .data, .data, .data, .handle, .data, .pinned], laidTests := true, laidLooks := .later }
def SpanTextsCardSaid : Prop := Claim7.holds Tryd.pinned (.plain (OpenSpec.ofChange spanTextsSpec)) spanTextsCard

/-- THE TIED CARD OF 'soundingslaw07.SpanSums'. -/
def spanSumsCard : Claim7 := { stood := { row := spanSumsRow, standIns := [], harness := (true, "24bf23afd084517cc65e30997a454a21bcf93539bc735a840e3244f5f8b5c31f"), looks := true }, kinds := [], alts := [], laidByText := true, laidKinds := [.data, .data, .data, .data, .handle, .data, .pinned], laidTests := true, laidLooks := .later }
def SpanSumsCardSaid : Prop := Claim7.holds Tryd.pinned (.plain (OpenSpec.ofChange spanSumsSpec)) spanSumsCard

/-- THE SECOND FORM's CARD OF 'soundingslaw07.SpanParses'. -/
def spanParsesUptoCard : Claim7 := { stood := { row := spanParsesUptoRow, standIns := [], harness := (true, "24bf23afd084517cc65e30997a454a21bcf93539bc735a840e3244f5f8b5c31f"), looks := true }, kinds := [], alts := [], laidByText := true, laidKinds := [.data, .data, .data, .data, .handle, .data, .pinned], laidTests := true, laidLooks := .later }
def SpanParsesUptoCardSaid : Prop := Claim7.holds Tryd.pinned (.plain (OpenSpec.upto spanParsesSpec)) spanParsesUptoCard

/-- THE SECOND FORM's CARD OF 'soundingslaw07.SpanTexts'. -/
def spanTextsUptoCard : Claim7 := { stood := { row := spanTextsUptoRow, standIns := [], harness := (true, "24bf23afd084517cc65e30997a454a21bcf93539bc735a840e3244f5f8b5c31f"), looks := true }, kinds := [], alts := [], laidByText := true, laidKinds := [.data, .data, .data, .data, .handle, .data, .pinned], laidTests := true, laidLooks := .later }
def SpanTextsUptoCardSaid : Prop := Claim7.holds Tryd.pinned (.plain (OpenSpec.upto spanTextsSpec)) spanTextsUptoCard

/-- THE SECOND FORM's CARD OF 'soundingslaw07.SpanSums'. -/
def spanSumsUptoCard : Claim7 := { stood := { row := spanSumsUptoRow, standIns := [], harness := (true, "24bf23afd084517cc65e30997a454a21bcf93539bc735a840e3244f5f8b5c31f"), looks := true }, kinds := [], alts := [], laidByText := true, laidKinds := [.data, .data, .data, .data, .handle, .data, .pinned], laidTests := true, laidLooks := .later }
def SpanSumsUptoCardSaid : Prop := Claim7.holds Tryd.pinned (.plain (OpenSpec.upto spanSumsSpec)) spanSumsUptoCard
end Rows
end Go.Proofs.YtpjbllkifjhknaaDoor
