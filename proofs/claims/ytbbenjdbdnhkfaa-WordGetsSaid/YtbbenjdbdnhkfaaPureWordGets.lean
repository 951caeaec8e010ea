/-
  The law WordGets: the number that any bytes begin with, and all that they are, are what the reference says.
  No conditions beyond the statement's own.
-/
import Derived.Test.YtbbenjdbdnhkfaaPureG
namespace Go.Proofs.Ytbbenjdbdnhkfaa.Pure
open Go.RowKit Go.Proofs.Ytbbenjdbdnhkfaa.Pr Go.Proofs.YtbbenjdbdnhkfaaW.PrintWords Go.Proofs.YtbbenjdbdnhkfaaW.PrintLast Go.Proofs.Ytbbenjdbdnhkfaa.PureG

theorem WordGets : quarterdecklaw01_WordGets.Pure := by
  intro b _ _ hb; exact (gets_ev b (wf8 hb)).rounds

end Go.Proofs.Ytbbenjdbdnhkfaa.Pure
