/-
  The law WordByOne: divided by 1, -1, 0 and itself.
  No conditions beyond the statement's own.
-/
import Derived.Test.YtbbenjdbdnhkfaaPureW
namespace Go.Proofs.Ytbbenjdbdnhkfaa.Pure
open Go.RowKit Go.Proofs.Ytbbenjdbdnhkfaa.Pr Go.Proofs.YtbbenjdbdnhkfaaW.PrintWords Go.Proofs.YtbbenjdbdnhkfaaW.PrintLast Go.Proofs.Ytbbenjdbdnhkfaa.PureW

theorem WordByOne : quarterdecklaw01_WordByOne.Pure := by
  intro a ha; exact (byone_ev a (wf64 ha)).rounds

end Go.Proofs.Ytbbenjdbdnhkfaa.Pure
