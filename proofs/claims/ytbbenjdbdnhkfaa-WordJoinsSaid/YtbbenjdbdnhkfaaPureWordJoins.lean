/-
  The law WordJoins: numbers one behind the other are as those of two lists.
  No conditions beyond the statement's own.
-/
import Derived.Test.YtbbenjdbdnhkfaaPureG
namespace Go.Proofs.Ytbbenjdbdnhkfaa.Pure
open Go.RowKit Go.Proofs.Ytbbenjdbdnhkfaa.Pr Go.Proofs.YtbbenjdbdnhkfaaW.PrintWords Go.Proofs.YtbbenjdbdnhkfaaW.PrintLast Go.Proofs.Ytbbenjdbdnhkfaa.PureG

theorem WordJoins : quarterdecklaw01_WordJoins.Pure := by
  intro a b _ _ _ _ _ _; exact (joins_ev a b).rounds

end Go.Proofs.Ytbbenjdbdnhkfaa.Pure
