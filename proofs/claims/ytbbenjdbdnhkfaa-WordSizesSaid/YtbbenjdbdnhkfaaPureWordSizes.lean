/-
  The law WordSizes: a number has a byte more for each power of 128 that it reaches, and all but its last byte are 128 or more.
  No conditions beyond the statement's own.
-/
import Derived.Test.YtbbenjdbdnhkfaaPureW
namespace Go.Proofs.Ytbbenjdbdnhkfaa.Pure
open Go.RowKit Go.Proofs.Ytbbenjdbdnhkfaa.Pr Go.Proofs.YtbbenjdbdnhkfaaW.PrintWords Go.Proofs.YtbbenjdbdnhkfaaW.PrintLast Go.Proofs.Ytbbenjdbdnhkfaa.PureW

theorem WordSizes : quarterdecklaw01_WordSizes.Pure := by
  intro a _; exact (sizes_ev a).rounds

end Go.Proofs.Ytbbenjdbdnhkfaa.Pure
