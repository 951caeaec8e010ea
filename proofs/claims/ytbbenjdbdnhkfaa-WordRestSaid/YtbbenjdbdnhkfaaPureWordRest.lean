/-
  The law WordRest: the dividend is quotient times divisor plus a rest nearer to 0 than the divisor and not of the other sign.
  No conditions beyond the statement's own.
-/
import Derived.Test.YtbbenjdbdnhkfaaPureW
namespace Go.Proofs.Ytbbenjdbdnhkfaa.Pure
open Go.RowKit Go.Proofs.Ytbbenjdbdnhkfaa.Pr Go.Proofs.YtbbenjdbdnhkfaaW.PrintWords Go.Proofs.YtbbenjdbdnhkfaaW.PrintLast Go.Proofs.Ytbbenjdbdnhkfaa.PureW

theorem WordRest : quarterdecklaw01_WordRest.Pure := by
  intro a b ha hb; exact (rest_ev a b (wf64 ha) (wf64 hb)).rounds

end Go.Proofs.Ytbbenjdbdnhkfaa.Pure
