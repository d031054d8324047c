-- Written by a program of this session (wip/hook.py) out of the translation. Not trusted: Lean checks it.
import Derived.Test.YtpjbllkifjhknaaDoorProg
import Derived.Below
import Derived.Deep.Draws
import Derived.Deep.AppendLies
import Derived.Maps.AppendAt
import Derived.OwnWalk
import Derived.Laws.BytesArg
import Derived.Laws.MakeOwn
import Derived.Laws.OwnMore
import Derived.Deep.OwnRows
import Derived.Tactics
import Derived.Lib.ConvBytes
import Derived.Laws.Slices
import Derived.WalkKit
import Derived.KernelRfl
import Derived.RowKit3
import Derived.Deep.LoopGhost
import Derived.Deep.QuietTactic
import Derived.BigQuiet
import Derived.WideLaws
import Derived.Deep.DeepCutAuto
import Derived.Deep.CutBlock
import Derived.Deep.RegionHeld3
import Derived.Laws.Rows
import Derived.Lib.AppendStr
import Derived.ArgAppend
import Derived.Laws.IdiomCopy
import Derived.OrdersHeld
import Derived.Laws.BitsLemmas
import Derived.RowKit
import Derived.Test.YtpjbllkifjhknaaDoorWWords
import Derived.Test.YtpjbllkifjhknaaDoorWLast
import Derived.Test.YtpjbllkifjhknaaDoorWTab
import Derived.Test.YtpjbllkifjhknaaDoorWFour
import Derived.Test.YtpjbllkifjhknaaDoorWQPut
import Derived.Test.YtpjbllkifjhknaaDoorWApart
import Derived.Test.YtpjbllkifjhknaaDoorWArr
import Derived.Test.YtpjbllkifjhknaaDoorWZeros
import Derived.Test.YtpjbllkifjhknaaDoorWFoot
import Derived.Test.YtpjbllkifjhknaaDoorWKept
import Derived.Test.YtpjbllkifjhknaaDoorWShare
import Derived.Test.YtpjbllkifjhknaaDoorWN
import Derived.Test.YtpjbllkifjhknaaDoorWFootNe
import Derived.Test.YtpjbllkifjhknaaDoorWAt
import Derived.Test.YtpjbllkifjhknaaDoorWEqStruct
import Derived.Test.YtpjbllkifjhknaaDoorWRepsOne
import Derived.Test.YtpjbllkifjhknaaDoorWInv
import Derived.Test.YtpjbllkifjhknaaDoorWInvWords
import Derived.Test.YtpjbllkifjhknaaDoorWGuard
import Derived.Test.YtpjbllkifjhknaaDoorWNEv
import Derived.Test.YtpjbllkifjhknaaDoorWMore
namespace Go.Proofs.YtpjbllkifjhknaaDoor.Pr
open Go.RowKit Go.Proofs.YtpjbllkifjhknaaDoorW.PrintWords Go.Proofs.YtpjbllkifjhknaaDoorW.PrintLast Go.Proofs.YtpjbllkifjhknaaDoorW.PrintMore
attribute [local go_sem] max2_int min2_int max_two min_two max_three min_three max_four min_four   -- for this text's walks alone
set_option linter.unusedVariables false
set_option linter.unusedSimpArgs false



def errW : Option Int → Value
  | none => .nilIface
  | some c => .iface 38 (.int .i64 c)
theorem errW_none : errW none = .nilIface := rfl
theorem errW_some (c : Int) : errW (some c) = .iface 38 (.int .i64 c) := rfl

theorem info2 : (Tryd.prog.info? 2).map (fun i => (i.zero, i.size, i.bytes)) = some (some (.int .i64 0), 1, 8) := by kernel_rfl
theorem info9 : (Tryd.prog.info? 9).map (fun i => (i.zero, i.size, i.bytes)) = some (some (.string ⟨#[]⟩), 1, 16) := by kernel_rfl
-- the values' own types

end Go.Proofs.YtpjbllkifjhknaaDoor.Pr
