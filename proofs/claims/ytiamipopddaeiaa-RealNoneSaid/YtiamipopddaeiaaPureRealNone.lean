/-
  The law RealNone: what is no number stays none and is below nothing; infinities stay.
  No conditions beyond the statement's own.
-/
import Derived.Test.YtiamipopddaeiaaPureR
namespace Go.Proofs.Ytiamipopddaeiaa.Pure
open Go.RowKit Go.Proofs.Ytiamipopddaeiaa.Pr Go.Proofs.YtiamipopddaeiaaW.PrintWords Go.Proofs.YtiamipopddaeiaaW.PrintLast Go.Proofs.Ytiamipopddaeiaa.PureR

theorem RealNone : quarterdecklaw02_RealNone.Pure := by
  intro x y hx hy; exact (none_law x y (wf64 hx) (wf64 hy)).rounds

end Go.Proofs.Ytiamipopddaeiaa.Pure
