/-
  The law RealOrder: the order is one, turns with the opposites, and is that of whole numbers.
  No conditions beyond the statement's own.
-/
import Derived.Test.YtiamipopddaeiaaPureR
namespace Go.Proofs.Ytiamipopddaeiaa.Pure
open Go.RowKit Go.Proofs.Ytiamipopddaeiaa.Pr Go.Proofs.YtiamipopddaeiaaW.PrintWords Go.Proofs.YtiamipopddaeiaaW.PrintLast Go.Proofs.Ytiamipopddaeiaa.PureR

theorem RealOrder : quarterdecklaw02_RealOrder.Pure := by
  intro x y z n m hx hy hz _ _; exact (order_law x y z n m (wf64 hx) (wf64 hy) (wf64 hz)).rounds

end Go.Proofs.Ytiamipopddaeiaa.Pure
