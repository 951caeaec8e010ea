/-
  The law WordDivides: what a number divided by another one is, or its fault, is what the reference says.
  No conditions beyond the statement's own.
-/
import Derived.Test.YtbbenjdbdnhkfaaPureW
namespace Go.Proofs.Ytbbenjdbdnhkfaa.Pure
open Go.RowKit Go.Proofs.Ytbbenjdbdnhkfaa.Pr Go.Proofs.YtbbenjdbdnhkfaaW.PrintWords Go.Proofs.YtbbenjdbdnhkfaaW.PrintLast Go.Proofs.Ytbbenjdbdnhkfaa.PureW

theorem WordDivides : quarterdecklaw01_WordDivides.Pure := by
  intro a b _ _; exact (divides_ev a b).rounds

end Go.Proofs.Ytbbenjdbdnhkfaa.Pure
