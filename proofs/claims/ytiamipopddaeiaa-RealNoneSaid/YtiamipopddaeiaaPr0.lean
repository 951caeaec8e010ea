/- Go functions of this seat as Lean functions, each with the proof that its call comes to just that, and the rows over them; written by a program of this session (wip/given_print.py); the conditions are the premises that each theorem names. -/
import Derived.Test.YtiamipopddaeiaaProg
import Derived.Below
import Derived.Deep.Draws
import Derived.Deep.AppendLies
import Derived.Maps.AppendAt
import Derived.OwnWalk
import Derived.Laws.BytesArg
import Derived.Laws.MakeOwn
import Derived.Laws.OwnMore
import Derived.Deep.OwnRows
import Derived.Tactics
import Derived.Lib.ConvBytes
import Derived.Laws.Slices
import Derived.WalkKit
import Derived.KernelRfl
import Derived.RowKit3
import Derived.Deep.LoopGhost
import Derived.Deep.QuietTactic
import Derived.BigQuiet
import Derived.WideLaws
import Derived.Deep.DeepCutAuto
import Derived.Deep.CutBlock
import Derived.Deep.RegionHeld3
import Derived.Laws.Rows
import Derived.Lib.AppendStr
import Derived.ArgAppend
import Derived.Laws.IdiomCopy
import Derived.OrdersHeld
import Derived.Laws.BitsLemmas
import Derived.RowKit
import Derived.Test.YtiamipopddaeiaaRealG
import Derived.Test.YtiamipopddaeiaaRefOf
import Derived.Test.YtiamipopddaeiaaWWords
import Derived.Test.YtiamipopddaeiaaWLast
import Derived.Test.YtiamipopddaeiaaWTab
import Derived.Test.YtiamipopddaeiaaWFour
import Derived.Test.YtiamipopddaeiaaWQPut
import Derived.Test.YtiamipopddaeiaaWApart
import Derived.Test.YtiamipopddaeiaaWArr
import Derived.Test.YtiamipopddaeiaaWZeros
import Derived.Test.YtiamipopddaeiaaWFoot
import Derived.Test.YtiamipopddaeiaaWKept
import Derived.Test.YtiamipopddaeiaaWShare
import Derived.Test.YtiamipopddaeiaaWN
import Derived.Test.YtiamipopddaeiaaWFootNe
import Derived.Test.YtiamipopddaeiaaWAt
import Derived.Test.YtiamipopddaeiaaWEqStruct
import Derived.Test.YtiamipopddaeiaaWRepsOne
import Derived.Test.YtiamipopddaeiaaWInv
import Derived.Test.YtiamipopddaeiaaWInvWords
import Derived.Test.YtiamipopddaeiaaWGuard
import Derived.Test.YtiamipopddaeiaaWNEv
import Derived.Test.YtiamipopddaeiaaWMore
namespace Go.Proofs.Ytiamipopddaeiaa.Pr
open Go.RowKit Go.Proofs.YtiamipopddaeiaaW.PrintWords Go.Proofs.YtiamipopddaeiaaW.PrintLast Go.Proofs.YtiamipopddaeiaaW.PrintMore
attribute [local go_sem] max2_int min2_int max_two min_two max_three min_three max_four min_four   -- for this text's walks alone
set_option linter.unusedVariables false
set_option linter.unusedSimpArgs false



def errW : Option Int → Value
  | none => .nilIface
  | some c => .iface 0 (.int .i64 c)
theorem errW_none : errW none = .nilIface := rfl
theorem errW_some (c : Int) : errW (some c) = .iface 0 (.int .i64 c) := rfl

-- the values' own types

end Go.Proofs.Ytiamipopddaeiaa.Pr
