/-
  NARROWER THAN 'FOR EVERY INPUT', by the rows' own cells (each row's printed sentence says how): RegexLong: laid · LabelMakes: laid · LabelOrder: laid · LabelParts: laid · LabelAgain: laid · StoreAny: laid · MatcherTurned: laid · StoreGrows: laid · MatcherParts: laid.
  DERIVED. THE GIVEN ROWS OF THIS SEAT. 9 by the template 'for every input the law returns true; each argument reads behind the call as it read before'; 0 by the template 'total and deterministic' (their statements: YtfbockgjhbfidaaDoorTotals.lean).
  GIVEN WITH THE SEED: the statements are not yours to turn. If you find one false, say at which input.
  Laid BY PROGRAM, IN A SANDBOX (cutbox-rows.mjs): the forced cells as the released guide's own fill.sh prints them over the translation ec222e9c749e4193… (all of the seat's roots in one cut). By AI agents, Wed Nov 11 2026. No macro, syntax, notation, axiom, sorry.
-/
import Derived.Test.YtfbockgjhbfidaaDoorChecked
import GoSem.PinnedTables
import GoSem.Claim
import GoSem.ClaimJoined
import GoSem.ClaimMapViews
import Derived.JoinedTies
import Derived.KernelRfl
namespace Go.Proofs.YtfbockgjhbfidaaDoor
/- THE CELL 'sum', in the pinned program and in every row, IS THE sha256 OF THE DUMP (.gsa) THAT YtfbockgjhbfidaaDoorProg.lean LOADS. Nothing in Lean hashes anything: it is a label: what it is worth is what the hold of that sum in a sandbox is worth. -/
noncomputable def Tryd.pinned : Pinned := { name := "ytfbockgjhbfidaadoor", sum := "ec222e9c749e41932377d2cb93a3625ff61800cf46215e326754fc181ed23f19", checked := Tryd.checked }
namespace Rows
def none {H : Type} : Left H := { results := [], args := [] }

/- WHAT THE LISTED PACKAGE-LEVEL VARIABLES READ AS WHEN THE CALL BEGINS. Each datum BY PROGRAM (the guide's laid-datum.mjs) off the statement by which the dump's own 'gosem.cut.vars' lays the variable. In a bare row this is a premise. The card (YtfbockgjhbfidaaDoorCards.lean) ties it to the program's text. -/
def laid_errors_errorType {H : Type} : DataW H := .iface "internal/reflectlite.rtype" (.agg [.ptr (.lit (.string [101, 114, 114, 111, 114]))])
def laid_unicode_utf8_acceptRanges {H : Type} : DataW H := .agg [.agg [.lit (.int .u8 128), .lit (.int .u8 191)], .agg [.lit (.int .u8 160), .lit (.int .u8 191)], .agg [.lit (.int .u8 128), .lit (.int .u8 159)], .agg [.lit (.int .u8 144), .lit (.int .u8 191)], .agg [.lit (.int .u8 128), .lit (.int .u8 143)], .agg [.lit (.int .u8 0), .lit (.int .u8 0)], .agg [.lit (.int .u8 0), .lit (.int .u8 0)], .agg [.lit (.int .u8 0), .lit (.int .u8 0)], .agg [.lit (.int .u8 0), .lit (.int .u8 0)], .agg [.lit (.int .u8 0), .lit (.int .u8 0)], .agg [.lit (.int .u8 0), .lit (.int .u8 0)], .agg [.lit (.int .u8 0), .lit (.int .u8 0)], .agg [.lit (.int .u8 0), .lit (.int .u8 0)], .agg [.lit (.int .u8 0), .lit (.int .u8 0)], .agg [.lit (.int .u8 0), .lit (.int .u8 0)], .agg [.lit (.int .u8 0), .lit (.int .u8 0)]]
/-- One of Go's own tables, pinned by name: the form's constant. -/
def laid_unicode_utf8_first : DataW Unit := Go.Pinned.utf8First

/-- 'soundingslaw02.RegexLong': WHATEVER THE INPUT: true; the input reads as it did. -/
def regexLongSpec : ChangeSpec := { name := "regexLong", fn := fun _ => fun
  | [d1, d2] => { results := [.lit (.bool true)], args := [d1, d2] }
  | _ => none }
def regexLongRow : OpenClaim := { program := "ytfbockgjhbfidaadoor", sum := "ec222e9c749e41932377d2cb93a3625ff61800cf46215e326754fc181ed23f19", func := "soundings/soundingslaw02.RegexLong", spec := "regexLong", inPlace := ["internal/bytealg.IndexByteString", "internal/abi.NoEscape", "internal/reflectlite.ValueOf", "(internal/reflectlite.Value).Type", "(internal/reflectlite.Value).IsNil", "internal/reflectlite.TypeOf", "(internal/reflectlite.Value).Elem", "(internal/reflectlite.Value).Set"], unfollowed := true, recurses := true, named := ["errors.errorType"], apart := false, laid := [("errors.errorType", laid_errors_errorType)] }
def RegexLongSaid : Prop := regexLongRow.holds Tryd.pinned (OpenSpec.ofChange regexLongSpec)

/-- ITS FALSE NEIGHBOUR: 'it returns false'. Refute it at one input. -/
def regexLongWrong : ChangeSpec := { name := "regexLong", fn := fun _ => fun
  | [d1, d2] => { results := [.lit (.bool false)], args := [d1, d2] }
  | _ => none }
def RegexLongWrongFalsely : Prop := regexLongRow.holds Tryd.pinned (OpenSpec.ofChange regexLongWrong)

/-- 'soundingslaw01.LabelMakes': WHATEVER THE INPUT: true; the input reads as it did. -/
def labelMakesSpec : ChangeSpec := { name := "labelMakes", fn := fun _ => fun
  | [d1, d2] => { results := [.lit (.bool true)], args := [d1, d2] }
  | _ => none }
def labelMakesRow : OpenClaim := { program := "ytfbockgjhbfidaadoor", sum := "ec222e9c749e41932377d2cb93a3625ff61800cf46215e326754fc181ed23f19", func := "soundings/soundingslaw01.LabelMakes", spec := "labelMakes", inPlace := ["internal/bytealg.abigen_runtime_cmpstring", "internal/reflectlite.ValueOf", "(internal/reflectlite.Value).Type", "(internal/reflectlite.Value).IsNil", "internal/reflectlite.TypeOf", "(internal/reflectlite.Value).Elem", "(internal/reflectlite.Value).Set"], unfollowed := true, recurses := true, named := ["unicode/utf8.first", "unicode/utf8.acceptRanges", "errors.errorType"], apart := false, laid := [("unicode/utf8.acceptRanges", laid_unicode_utf8_acceptRanges), ("errors.errorType", laid_errors_errorType), ("unicode/utf8.first", laid_unicode_utf8_first)] }
def LabelMakesSaid : Prop := labelMakesRow.holds Tryd.pinned (OpenSpec.ofChange labelMakesSpec)

/-- ITS FALSE NEIGHBOUR: 'it returns false'. Refute it at one input. -/
def labelMakesWrong : ChangeSpec := { name := "labelMakes", fn := fun _ => fun
  | [d1, d2] => { results := [.lit (.bool false)], args := [d1, d2] }
  | _ => none }
def LabelMakesWrongFalsely : Prop := labelMakesRow.holds Tryd.pinned (OpenSpec.ofChange labelMakesWrong)

/-- 'soundingslaw01.LabelOrder': WHATEVER THE INPUT: true; the input reads as it did. -/
def labelOrderSpec : ChangeSpec := { name := "labelOrder", fn := fun _ => fun
  | [d1, d2, d3] => { results := [.lit (.bool true)], args := [d1, d2, d3] }
  | _ => none }
def labelOrderRow : OpenClaim := { program := "ytfbockgjhbfidaadoor", sum := "ec222e9c749e41932377d2cb93a3625ff61800cf46215e326754fc181ed23f19", func := "soundings/soundingslaw01.LabelOrder", spec := "labelOrder", inPlace := ["internal/bytealg.abigen_runtime_cmpstring", "internal/reflectlite.ValueOf", "(internal/reflectlite.Value).Type", "(internal/reflectlite.Value).IsNil", "internal/reflectlite.TypeOf", "(internal/reflectlite.Value).Elem", "(internal/reflectlite.Value).Set"], unfollowed := true, recurses := true, named := ["unicode/utf8.first", "unicode/utf8.acceptRanges", "errors.errorType"], apart := false, laid := [("unicode/utf8.acceptRanges", laid_unicode_utf8_acceptRanges), ("errors.errorType", laid_errors_errorType), ("unicode/utf8.first", laid_unicode_utf8_first)] }
def LabelOrderSaid : Prop := labelOrderRow.holds Tryd.pinned (OpenSpec.ofChange labelOrderSpec)

/-- ITS FALSE NEIGHBOUR: 'it returns false'. Refute it at one input. -/
def labelOrderWrong : ChangeSpec := { name := "labelOrder", fn := fun _ => fun
  | [d1, d2, d3] => { results := [.lit (.bool false)], args := [d1, d2, d3] }
  | _ => none }
def LabelOrderWrongFalsely : Prop := labelOrderRow.holds Tryd.pinned (OpenSpec.ofChange labelOrderWrong)

/-- 'soundingslaw01.LabelParts': WHATEVER THE INPUT: true; the input reads as it did. -/
def labelPartsSpec : ChangeSpec := { name := "labelParts", fn := fun _ => fun
  | [d1, d2, d3] => { results := [.lit (.bool true)], args := [d1, d2, d3] }
  | _ => none }
def labelPartsRow : OpenClaim := { program := "ytfbockgjhbfidaadoor", sum := "ec222e9c749e41932377d2cb93a3625ff61800cf46215e326754fc181ed23f19", func := "soundings/soundingslaw01.LabelParts", spec := "labelParts", inPlace := ["internal/bytealg.abigen_runtime_cmpstring", "internal/reflectlite.ValueOf", "(internal/reflectlite.Value).Type", "(internal/reflectlite.Value).IsNil", "internal/reflectlite.TypeOf", "(internal/reflectlite.Value).Elem", "(internal/reflectlite.Value).Set"], unfollowed := true, recurses := true, named := ["unicode/utf8.first", "unicode/utf8.acceptRanges", "errors.errorType"], apart := false, laid := [("unicode/utf8.acceptRanges", laid_unicode_utf8_acceptRanges), ("errors.errorType", laid_errors_errorType), ("unicode/utf8.first", laid_unicode_utf8_first)] }
def LabelPartsSaid : Prop := labelPartsRow.holds Tryd.pinned (OpenSpec.ofChange labelPartsSpec)

/-- ITS FALSE NEIGHBOUR: 'it returns false'. Refute it at one input. -/
def labelPartsWrong : ChangeSpec := { name := "labelParts", fn := fun _ => fun
  | [d1, d2, d3] => { results := [.lit (.bool false)], args := [d1, d2, d3] }
  | _ => none }
def LabelPartsWrongFalsely : Prop := labelPartsRow.holds Tryd.pinned (OpenSpec.ofChange labelPartsWrong)

/-- 'soundingslaw01.LabelAgain': WHATEVER THE INPUT: true; the input reads as it did. -/
def labelAgainSpec : ChangeSpec := { name := "labelAgain", fn := fun _ => fun
  | [d] => { results := [.lit (.bool true)], args := [d] }
  | _ => none }
def labelAgainRow : OpenClaim := { program := "ytfbockgjhbfidaadoor", sum := "ec222e9c749e41932377d2cb93a3625ff61800cf46215e326754fc181ed23f19", func := "soundings/soundingslaw01.LabelAgain", spec := "labelAgain", inPlace := ["internal/bytealg.abigen_runtime_cmpstring", "internal/reflectlite.ValueOf", "(internal/reflectlite.Value).Type", "(internal/reflectlite.Value).IsNil", "internal/reflectlite.TypeOf", "(internal/reflectlite.Value).Elem", "(internal/reflectlite.Value).Set"], unfollowed := true, recurses := true, named := ["unicode/utf8.first", "unicode/utf8.acceptRanges", "errors.errorType"], apart := false, laid := [("unicode/utf8.acceptRanges", laid_unicode_utf8_acceptRanges), ("errors.errorType", laid_errors_errorType), ("unicode/utf8.first", laid_unicode_utf8_first)] }
def LabelAgainSaid : Prop := labelAgainRow.holds Tryd.pinned (OpenSpec.ofChange labelAgainSpec)

/-- ITS FALSE NEIGHBOUR: 'it returns false'. Refute it at one input. -/
def labelAgainWrong : ChangeSpec := { name := "labelAgain", fn := fun _ => fun
  | [d] => { results := [.lit (.bool false)], args := [d] }
  | _ => none }
def LabelAgainWrongFalsely : Prop := labelAgainRow.holds Tryd.pinned (OpenSpec.ofChange labelAgainWrong)

/-- 'soundingslaw05.StoreAny': WHATEVER THE INPUT: true; the input reads as it did. -/
def storeAnySpec : ChangeSpec := { name := "storeAny", fn := fun _ => fun
  | [d1, d2, d3, d4, d5] => { results := [.lit (.bool true)], args := [d1, d2, d3, d4, d5] }
  | _ => none }
def storeAnyRow : OpenClaim := { program := "ytfbockgjhbfidaadoor", sum := "ec222e9c749e41932377d2cb93a3625ff61800cf46215e326754fc181ed23f19", func := "soundings/soundingslaw05.StoreAny", spec := "storeAny", inPlace := ["math.Float64frombits", "internal/bytealg.abigen_runtime_cmpstring", "slices.overlaps[soundings/api.Series]", "internal/reflectlite.ValueOf", "(internal/reflectlite.Value).Type", "(internal/reflectlite.Value).IsNil", "internal/reflectlite.TypeOf", "(internal/reflectlite.Value).Elem", "(internal/reflectlite.Value).Set"], unfollowed := true, recurses := true, named := ["unicode/utf8.first", "unicode/utf8.acceptRanges", "errors.errorType"], apart := false, laid := [("unicode/utf8.acceptRanges", laid_unicode_utf8_acceptRanges), ("errors.errorType", laid_errors_errorType), ("unicode/utf8.first", laid_unicode_utf8_first)] }
def StoreAnySaid : Prop := storeAnyRow.holds Tryd.pinned (OpenSpec.ofChange storeAnySpec)

/-- ITS FALSE NEIGHBOUR: 'it returns false'. Refute it at one input. -/
def storeAnyWrong : ChangeSpec := { name := "storeAny", fn := fun _ => fun
  | [d1, d2, d3, d4, d5] => { results := [.lit (.bool false)], args := [d1, d2, d3, d4, d5] }
  | _ => none }
def StoreAnyWrongFalsely : Prop := storeAnyRow.holds Tryd.pinned (OpenSpec.ofChange storeAnyWrong)

/-- 'soundingslaw03.MatcherTurned': WHATEVER THE INPUT: true; the input reads as it did. -/
def matcherTurnedSpec : ChangeSpec := { name := "matcherTurned", fn := fun _ => fun
  | [d1, d2] => { results := [.lit (.bool true)], args := [d1, d2] }
  | _ => none }
def matcherTurnedRow : OpenClaim := { program := "ytfbockgjhbfidaadoor", sum := "ec222e9c749e41932377d2cb93a3625ff61800cf46215e326754fc181ed23f19", func := "soundings/soundingslaw03.MatcherTurned", spec := "matcherTurned", inPlace := ["internal/bytealg.abigen_runtime_cmpstring", "internal/bytealg.IndexByteString", "internal/abi.NoEscape"], unfollowed := true, recurses := true, named := ["unicode/utf8.first", "unicode/utf8.acceptRanges"], apart := false, laid := [("unicode/utf8.acceptRanges", laid_unicode_utf8_acceptRanges), ("unicode/utf8.first", laid_unicode_utf8_first)] }
def MatcherTurnedSaid : Prop := matcherTurnedRow.holds Tryd.pinned (OpenSpec.ofChange matcherTurnedSpec)

/-- ITS FALSE NEIGHBOUR: 'it returns false'. Refute it at one input. -/
def matcherTurnedWrong : ChangeSpec := { name := "matcherTurned", fn := fun _ => fun
  | [d1, d2] => { results := [.lit (.bool false)], args := [d1, d2] }
  | _ => none }
def MatcherTurnedWrongFalsely : Prop := matcherTurnedRow.holds Tryd.pinned (OpenSpec.ofChange matcherTurnedWrong)

/-- 'soundingslaw05.StoreGrows': WHATEVER THE INPUT: true; the input reads as it did. -/
def storeGrowsSpec : ChangeSpec := { name := "storeGrows", fn := fun _ => fun
  | [d1, d2, d3, d4] => { results := [.lit (.bool true)], args := [d1, d2, d3, d4] }
  | _ => none }
def storeGrowsRow : OpenClaim := { program := "ytfbockgjhbfidaadoor", sum := "ec222e9c749e41932377d2cb93a3625ff61800cf46215e326754fc181ed23f19", func := "soundings/soundingslaw05.StoreGrows", spec := "storeGrows", inPlace := ["math.Float64frombits", "internal/bytealg.abigen_runtime_cmpstring", "slices.overlaps[soundings/api.Series]", "internal/reflectlite.ValueOf", "(internal/reflectlite.Value).Type", "(internal/reflectlite.Value).IsNil", "internal/reflectlite.TypeOf", "(internal/reflectlite.Value).Elem", "(internal/reflectlite.Value).Set"], unfollowed := true, recurses := true, named := ["unicode/utf8.first", "unicode/utf8.acceptRanges", "errors.errorType"], apart := false, laid := [("unicode/utf8.acceptRanges", laid_unicode_utf8_acceptRanges), ("errors.errorType", laid_errors_errorType), ("unicode/utf8.first", laid_unicode_utf8_first)] }
def StoreGrowsSaid : Prop := storeGrowsRow.holds Tryd.pinned (OpenSpec.ofChange storeGrowsSpec)

/-- ITS FALSE NEIGHBOUR: 'it returns false'. Refute it at one input. -/
def storeGrowsWrong : ChangeSpec := { name := "storeGrows", fn := fun _ => fun
  | [d1, d2, d3, d4] => { results := [.lit (.bool false)], args := [d1, d2, d3, d4] }
  | _ => none }
def StoreGrowsWrongFalsely : Prop := storeGrowsRow.holds Tryd.pinned (OpenSpec.ofChange storeGrowsWrong)

/-- 'soundingslaw03.MatcherParts': WHATEVER THE INPUT: true; the input reads as it did. -/
def matcherPartsSpec : ChangeSpec := { name := "matcherParts", fn := fun _ => fun
  | [d1, d2, d3, d4] => { results := [.lit (.bool true)], args := [d1, d2, d3, d4] }
  | _ => none }
def matcherPartsRow : OpenClaim := { program := "ytfbockgjhbfidaadoor", sum := "ec222e9c749e41932377d2cb93a3625ff61800cf46215e326754fc181ed23f19", func := "soundings/soundingslaw03.MatcherParts", spec := "matcherParts", inPlace := ["internal/bytealg.abigen_runtime_cmpstring", "internal/bytealg.IndexByteString", "internal/abi.NoEscape"], unfollowed := true, recurses := true, named := ["unicode/utf8.first", "unicode/utf8.acceptRanges"], apart := false, laid := [("unicode/utf8.acceptRanges", laid_unicode_utf8_acceptRanges), ("unicode/utf8.first", laid_unicode_utf8_first)] }
def MatcherPartsSaid : Prop := matcherPartsRow.holds Tryd.pinned (OpenSpec.ofChange matcherPartsSpec)

/-- ITS FALSE NEIGHBOUR: 'it returns false'. Refute it at one input. -/
def matcherPartsWrong : ChangeSpec := { name := "matcherParts", fn := fun _ => fun
  | [d1, d2, d3, d4] => { results := [.lit (.bool false)], args := [d1, d2, d3, d4] }
  | _ => none }
def MatcherPartsWrongFalsely : Prop := matcherPartsRow.holds Tryd.pinned (OpenSpec.ofChange matcherPartsWrong)

/- THE SECOND FORM. 'bulk': how many values and letters a reading holds, each counted each time it is reached (what is shared counts as often as it is met; a slice's spare places count too). A statement '..UptoSaid' is the law's where the arguments, and the package variables that the reading takes, are together of bulk at most 1048576: NARROWER than '..Said'. Prove '..Said' where nothing that the law and all that it calls make is longer than what came in: it says more and counts as full. Else prove '..UptoSaid'. A law counts once. -/
mutual
def uptoBulk {H : Type} : DataW H → Nat
  | .lit (.string bytes) => bytes.length + 1
  | .lit _ => 1
  | .nil => 1
  | .ptr d => uptoBulk d + 1
  | .slice elems spare => uptoBulkAll elems + uptoBulkAll spare + 1
  | .agg parts => uptoBulkAll parts + 1
  | .iface _ d => uptoBulk d + 1
  | .map entries => uptoBulkEntries entries + 1
  | .held _ => 1
def uptoBulkAll {H : Type} : List (DataW H) → Nat
  | [] => 0
  | d :: r => uptoBulk d + uptoBulkAll r
def uptoBulkEntries {H : Type} : List (Lit × DataW H) → Nat
  | [] => 0
  | x :: r => uptoBulkEntry x + uptoBulkEntries r
def uptoBulkEntry {H : Type} : Lit × DataW H → Nat
  | (.string bytes, d) => bytes.length + uptoBulk d + 1
  | (_, d) => uptoBulk d + 1
 end
def uptoSmall : (H : Type) → List (DataW H) → Bool := fun _ ds => decide (uptoBulkAll ds ≤ 1048576)
def OpenSpec.upto (s : _root_.Go.ChangeSpec) : _root_.Go.OpenSpec := { _root_.Go.OpenSpec.ofChange s with cond := some uptoSmall }

/-- 'soundingslaw02.RegexLong', WHERE WHAT IT READS IS OF BULK AT MOST 1048576: true; the input reads as it did. -/
def regexLongUptoRow : OpenClaim := { program := "ytfbockgjhbfidaadoor", sum := "ec222e9c749e41932377d2cb93a3625ff61800cf46215e326754fc181ed23f19", func := "soundings/soundingslaw02.RegexLong", spec := "regexLong", inPlace := ["internal/bytealg.IndexByteString", "internal/abi.NoEscape", "internal/reflectlite.ValueOf", "(internal/reflectlite.Value).Type", "(internal/reflectlite.Value).IsNil", "internal/reflectlite.TypeOf", "(internal/reflectlite.Value).Elem", "(internal/reflectlite.Value).Set"], unfollowed := true, recurses := true, named := ["errors.errorType"], apart := false, laid := [("errors.errorType", laid_errors_errorType)], narrowed := true }
def RegexLongUptoSaid : Prop := regexLongUptoRow.holds Tryd.pinned (OpenSpec.upto regexLongSpec)

/-- 'soundingslaw01.LabelMakes', WHERE WHAT IT READS IS OF BULK AT MOST 1048576: true; the input reads as it did. -/
def labelMakesUptoRow : OpenClaim := { program := "ytfbockgjhbfidaadoor", sum := "ec222e9c749e41932377d2cb93a3625ff61800cf46215e326754fc181ed23f19", func := "soundings/soundingslaw01.LabelMakes", spec := "labelMakes", inPlace := ["internal/bytealg.abigen_runtime_cmpstring", "internal/reflectlite.ValueOf", "(internal/reflectlite.Value).Type", "(internal/reflectlite.Value).IsNil", "internal/reflectlite.TypeOf", "(internal/reflectlite.Value).Elem", "(internal/reflectlite.Value).Set"], unfollowed := true, recurses := true, named := ["unicode/utf8.first", "unicode/utf8.acceptRanges", "errors.errorType"], apart := false, laid := [("unicode/utf8.acceptRanges", laid_unicode_utf8_acceptRanges), ("errors.errorType", laid_errors_errorType), ("unicode/utf8.first", laid_unicode_utf8_first)], narrowed := true }
def LabelMakesUptoSaid : Prop := labelMakesUptoRow.holds Tryd.pinned (OpenSpec.upto labelMakesSpec)

/-- 'soundingslaw01.LabelOrder', WHERE WHAT IT READS IS OF BULK AT MOST 1048576: true; the input reads as it did. -/
def labelOrderUptoRow : OpenClaim := { program := "ytfbockgjhbfidaadoor", sum := "ec222e9c749e41932377d2cb93a3625ff61800cf46215e326754fc181ed23f19", func := "soundings/soundingslaw01.LabelOrder", spec := "labelOrder", inPlace := ["internal/bytealg.abigen_runtime_cmpstring", "internal/reflectlite.ValueOf", "(internal/reflectlite.Value).Type", "(internal/reflectlite.Value).IsNil", "internal/reflectlite.TypeOf", "(internal/reflectlite.Value).Elem", "(internal/reflectlite.Value).Set"], unfollowed := true, recurses := true, named := ["unicode/utf8.first", "unicode/utf8.acceptRanges", "errors.errorType"], apart := false, laid := [("unicode/utf8.acceptRanges", laid_unicode_utf8_acceptRanges), ("errors.errorType", laid_errors_errorType), ("unicode/utf8.first", laid_unicode_utf8_first)], narrowed := true }
def LabelOrderUptoSaid : Prop := labelOrderUptoRow.holds Tryd.pinned (OpenSpec.upto labelOrderSpec)

/-- 'soundingslaw01.LabelParts', WHERE WHAT IT READS IS OF BULK AT MOST 1048576: true; the input reads as it did. -/
def labelPartsUptoRow : OpenClaim := { program := "ytfbockgjhbfidaadoor", sum := "ec222e9c749e41932377d2cb93a3625ff61800cf46215e326754fc181ed23f19", func := "soundings/soundingslaw01.LabelParts", spec := "labelParts", inPlace := ["internal/bytealg.abigen_runtime_cmpstring", "internal/reflectlite.ValueOf", "(internal/reflectlite.Value).Type", "(internal/reflectlite.Value).IsNil", "internal/reflectlite.TypeOf", "(internal/reflectlite.Value).Elem", "(internal/reflectlite.Value).Set"], unfollowed := true, recurses := true, named := ["unicode/utf8.first", "unicode/utf8.acceptRanges", "errors.errorType"], apart := false, laid := [("unicode/utf8.acceptRanges", laid_unicode_utf8_acceptRanges), ("errors.errorType", laid_errors_errorType), ("unicode/utf8.first", laid_unicode_utf8_first)], narrowed := true }
def LabelPartsUptoSaid : Prop := labelPartsUptoRow.holds Tryd.pinned (OpenSpec.upto labelPartsSpec)

/-- 'soundingslaw01.LabelAgain', WHERE WHAT IT READS IS OF BULK AT MOST 1048576: true; the input reads as it did. -/
def labelAgainUptoRow : OpenClaim := { program := "ytfbockgjhbfidaadoor", sum := "ec222e9c749e41932377d2cb93a3625ff61800cf46215e326754fc181ed23f19", func := "soundings/soundingslaw01.LabelAgain", spec := "labelAgain", inPlace := ["internal/bytealg.abigen_runtime_cmpstring", "internal/reflectlite.ValueOf", "(internal/reflectlite.Value).Type", "(internal/reflectlite.Value).IsNil", "internal/reflectlite.TypeOf", "(internal/reflectlite.Value).Elem", "(internal/reflectlite.Value).Set"], unfollowed := true, recurses := true, named := ["unicode/utf8.first", "unicode/utf8.acceptRanges", "errors.errorType"], apart := false, laid := [("unicode/utf8.acceptRanges", laid_unicode_utf8_acceptRanges), ("errors.errorType", laid_errors_errorType), ("unicode/utf8.first", laid_unicode_utf8_first)], narrowed := true }
def LabelAgainUptoSaid : Prop := labelAgainUptoRow.holds Tryd.pinned (OpenSpec.upto labelAgainSpec)

/-- 'soundingslaw05.StoreAny', WHERE WHAT IT READS IS OF BULK AT MOST 1048576: true; the input reads as it did. -/
def storeAnyUptoRow : OpenClaim := { program := "ytfbockgjhbfidaadoor", sum := "ec222e9c749e41932377d2cb93a3625ff61800cf46215e326754fc181ed23f19", func := "soundings/soundingslaw05.StoreAny", spec := "storeAny", inPlace := ["math.Float64frombits", "internal/bytealg.abigen_runtime_cmpstring", "slices.overlaps[soundings/api.Series]", "internal/reflectlite.ValueOf", "(internal/reflectlite.Value).Type", "(internal/reflectlite.Value).IsNil", "internal/reflectlite.TypeOf", "(internal/reflectlite.Value).Elem", "(internal/reflectlite.Value).Set"], unfollowed := true, recurses := true, named := ["unicode/utf8.first", "unicode/utf8.acceptRanges", "errors.errorType"], apart := false, laid := [("unicode/utf8.acceptRanges", laid_unicode_utf8_acceptRanges), ("errors.errorType", laid_errors_errorType), ("unicode/utf8.first", laid_unicode_utf8_first)], narrowed := true }
def StoreAnyUptoSaid : Prop := storeAnyUptoRow.holds Tryd.pinned (OpenSpec.upto storeAnySpec)

/-- 'soundingslaw03.MatcherTurned', WHERE WHAT IT READS IS OF BULK AT MOST 1048576: true; the input reads as it did. -/
def matcherTurnedUptoRow : OpenClaim := { program := "ytfbockgjhbfidaadoor", sum := "ec222e9c749e41932377d2cb93a3625ff61800cf46215e326754fc181ed23f19", func := "soundings/soundingslaw03.MatcherTurned", spec := "matcherTurned", inPlace := ["internal/bytealg.abigen_runtime_cmpstring", "internal/bytealg.IndexByteString", "internal/abi.NoEscape"], unfollowed := true, recurses := true, named := ["unicode/utf8.first", "unicode/utf8.acceptRanges"], apart := false, laid := [("unicode/utf8.acceptRanges", laid_unicode_utf8_acceptRanges), ("unicode/utf8.first", laid_unicode_utf8_first)], narrowed := true }
def MatcherTurnedUptoSaid : Prop := matcherTurnedUptoRow.holds Tryd.pinned (OpenSpec.upto matcherTurnedSpec)

/-- 'soundingslaw05.StoreGrows', WHERE WHAT IT READS IS OF BULK AT MOST 1048576: true; the input reads as it did. -/
def storeGrowsUptoRow : OpenClaim := { program := "ytfbockgjhbfidaadoor", sum := "ec222e9c749e41932377d2cb93a3625ff61800cf46215e326754fc181ed23f19", func := "soundings/soundingslaw05.StoreGrows", spec := "storeGrows", inPlace := ["math.Float64frombits", "internal/bytealg.abigen_runtime_cmpstring", "slices.overlaps[soundings/api.Series]", "internal/reflectlite.ValueOf", "(internal/reflectlite.Value).Type", "(internal/reflectlite.Value).IsNil", "internal/reflectlite.TypeOf", "(internal/reflectlite.Value).Elem", "(internal/reflectlite.Value).Set"], unfollowed := true, recurses := true, named := ["unicode/utf8.first", "unicode/utf8.acceptRanges", "errors.errorType"], apart := false, laid := [("unicode/utf8.acceptRanges", laid_unicode_utf8_acceptRanges), ("errors.errorType", laid_errors_errorType), ("unicode/utf8.first", laid_unicode_utf8_first)], narrowed := true }
def StoreGrowsUptoSaid : Prop := storeGrowsUptoRow.holds Tryd.pinned (OpenSpec.upto storeGrowsSpec)

/-- 'soundingslaw03.MatcherParts', WHERE WHAT IT READS IS OF BULK AT MOST 1048576: true; the input reads as it did. -/
def matcherPartsUptoRow : OpenClaim := { program := "ytfbockgjhbfidaadoor", sum := "ec222e9c749e41932377d2cb93a3625ff61800cf46215e326754fc181ed23f19", func := "soundings/soundingslaw03.MatcherParts", spec := "matcherParts", inPlace := ["internal/bytealg.abigen_runtime_cmpstring", "internal/bytealg.IndexByteString", "internal/abi.NoEscape"], unfollowed := true, recurses := true, named := ["unicode/utf8.first", "unicode/utf8.acceptRanges"], apart := false, laid := [("unicode/utf8.acceptRanges", laid_unicode_utf8_acceptRanges), ("unicode/utf8.first", laid_unicode_utf8_first)], narrowed := true }
def MatcherPartsUptoSaid : Prop := matcherPartsUptoRow.holds Tryd.pinned (OpenSpec.upto matcherPartsSpec)

end Rows
end Go.Proofs.YtfbockgjhbfidaaDoor
