/- Go functions of this seat as Lean functions, each with the proof that its call comes to just that, and the rows over them; written by a program of this session (wip/given_print.py); the conditions are the premises that each theorem names. -/
import Derived.Test.YtbbenjdbdnhkfaaProg
import Derived.Below
import Derived.Deep.Draws
import Derived.Deep.AppendLies
import Derived.Maps.AppendAt
import Derived.OwnWalk
import Derived.Laws.BytesArg
import Derived.Laws.MakeOwn
import Derived.Laws.OwnMore
import Derived.Deep.OwnRows
import Derived.Tactics
import Derived.Lib.ConvBytes
import Derived.Laws.Slices
import Derived.WalkKit
import Derived.KernelRfl
import Derived.RowKit3
import Derived.Deep.LoopGhost
import Derived.Deep.QuietTactic
import Derived.BigQuiet
import Derived.WideLaws
import Derived.Deep.DeepCutAuto
import Derived.Deep.CutBlock
import Derived.Deep.RegionHeld3
import Derived.Laws.Rows
import Derived.Lib.AppendStr
import Derived.ArgAppend
import Derived.Laws.IdiomCopy
import Derived.OrdersHeld
import Derived.Laws.BitsLemmas
import Derived.RowKit
import Derived.Test.YtbbenjdbdnhkfaaDiv
import Derived.Test.YtbbenjdbdnhkfaaWWords
import Derived.Test.YtbbenjdbdnhkfaaWLast
import Derived.Test.YtbbenjdbdnhkfaaWTab
import Derived.Test.YtbbenjdbdnhkfaaWFour
import Derived.Test.YtbbenjdbdnhkfaaWQPut
import Derived.Test.YtbbenjdbdnhkfaaWApart
import Derived.Test.YtbbenjdbdnhkfaaWArr
import Derived.Test.YtbbenjdbdnhkfaaWZeros
import Derived.Test.YtbbenjdbdnhkfaaWFoot
import Derived.Test.YtbbenjdbdnhkfaaWKept
import Derived.Test.YtbbenjdbdnhkfaaWShare
import Derived.Test.YtbbenjdbdnhkfaaWN
import Derived.Test.YtbbenjdbdnhkfaaWFootNe
import Derived.Test.YtbbenjdbdnhkfaaWAt
import Derived.Test.YtbbenjdbdnhkfaaWEqStruct
import Derived.Test.YtbbenjdbdnhkfaaWRepsOne
import Derived.Test.YtbbenjdbdnhkfaaWInv
import Derived.Test.YtbbenjdbdnhkfaaWInvWords
import Derived.Test.YtbbenjdbdnhkfaaWGuard
import Derived.Test.YtbbenjdbdnhkfaaWNEv
import Derived.Test.YtbbenjdbdnhkfaaWMore
namespace Go.Proofs.Ytbbenjdbdnhkfaa.Pr
open Go.RowKit Go.Proofs.YtbbenjdbdnhkfaaW.PrintWords Go.Proofs.YtbbenjdbdnhkfaaW.PrintLast Go.Proofs.YtbbenjdbdnhkfaaW.PrintMore
attribute [local go_sem] max2_int min2_int max_two min_two max_three min_three max_four min_four   -- for this text's walks alone
set_option linter.unusedVariables false
set_option linter.unusedSimpArgs false



def errW : Option Int → Value
  | none => .nilIface
  | some c => .iface 0 (.int .i64 c)
theorem errW_none : errW none = .nilIface := rfl
theorem errW_some (c : Int) : errW (some c) = .iface 0 (.int .i64 c) := rfl

theorem info3 : (Try.prog.info? 3).map (fun i => (i.zero, i.size, i.bytes)) = some (some (.int .i64 0), 1, 8) := by kernel_rfl
theorem info5 : (Try.prog.info? 5).map (fun i => (i.zero, i.size, i.bytes)) = some (some (.int .u8 0), 1, 1) := by kernel_rfl
-- the values' own types

end Go.Proofs.Ytbbenjdbdnhkfaa.Pr
