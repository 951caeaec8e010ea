/-
  The law WordBack: what was put is got back, also ahead of other bytes, and all of it.
  No conditions beyond the statement's own.
-/
import Derived.Test.YtbbenjdbdnhkfaaPureG
namespace Go.Proofs.Ytbbenjdbdnhkfaa.Pure
open Go.RowKit Go.Proofs.Ytbbenjdbdnhkfaa.Pr Go.Proofs.YtbbenjdbdnhkfaaW.PrintWords Go.Proofs.YtbbenjdbdnhkfaaW.PrintLast Go.Proofs.Ytbbenjdbdnhkfaa.PureG

theorem WordBack : quarterdecklaw01_WordBack.Pure := by
  intro a l rest _ _ _ _ _ _ hr; exact (back_ev a l rest (wf8 hr)).rounds

end Go.Proofs.Ytbbenjdbdnhkfaa.Pure
