/-
  The law RealBelow: whether any bits are less than any others is what the reference says.
  No conditions beyond the statement's own.
-/
import Derived.Test.YtiamipopddaeiaaPureR
namespace Go.Proofs.Ytiamipopddaeiaa.Pure
open Go.RowKit Go.Proofs.Ytiamipopddaeiaa.Pr Go.Proofs.YtiamipopddaeiaaW.PrintWords Go.Proofs.YtiamipopddaeiaaW.PrintLast Go.Proofs.Ytiamipopddaeiaa.PureR

theorem RealBelow : quarterdecklaw02_RealBelow.Pure := by
  intro x y hx hy; exact below_law x y (wf64 hx) (wf64 hy)

end Go.Proofs.Ytiamipopddaeiaa.Pure
