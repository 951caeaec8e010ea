/-
  The law RealSteps: a finite number from 0 on is below the next bits and has no greater whole part.
  No conditions beyond the statement's own.
-/
import Derived.Test.YtiamipopddaeiaaPureR
namespace Go.Proofs.Ytiamipopddaeiaa.Pure
open Go.RowKit Go.Proofs.Ytiamipopddaeiaa.Pr Go.Proofs.YtiamipopddaeiaaW.PrintWords Go.Proofs.YtiamipopddaeiaaW.PrintLast Go.Proofs.Ytiamipopddaeiaa.PureR

theorem RealSteps : quarterdecklaw02_RealSteps.Pure := by
  intro x hx; exact (steps_law x (wf64 hx)).rounds

end Go.Proofs.Ytiamipopddaeiaa.Pure
