/-
  The law WordPuts: any number as bytes, and any numbers, are what the reference says.
  No conditions beyond the statement's own.
-/
import Derived.Test.YtbbenjdbdnhkfaaPureW
namespace Go.Proofs.Ytbbenjdbdnhkfaa.Pure
open Go.RowKit Go.Proofs.Ytbbenjdbdnhkfaa.Pr Go.Proofs.YtbbenjdbdnhkfaaW.PrintWords Go.Proofs.YtbbenjdbdnhkfaaW.PrintLast Go.Proofs.Ytbbenjdbdnhkfaa.PureW

theorem WordPuts : quarterdecklaw01_WordPuts.Pure := by
  intro a l _ _ _ _; exact (puts_ev a l).rounds

end Go.Proofs.Ytbbenjdbdnhkfaa.Pure
