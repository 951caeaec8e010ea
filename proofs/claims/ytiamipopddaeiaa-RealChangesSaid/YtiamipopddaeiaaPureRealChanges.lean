/-
  The law RealChanges: half, twice and the opposite of any bits are what the reference says.
  No conditions beyond the statement's own.
-/
import Derived.Test.YtiamipopddaeiaaPureR
namespace Go.Proofs.Ytiamipopddaeiaa.Pure
open Go.RowKit Go.Proofs.Ytiamipopddaeiaa.Pr Go.Proofs.YtiamipopddaeiaaW.PrintWords Go.Proofs.YtiamipopddaeiaaW.PrintLast Go.Proofs.Ytiamipopddaeiaa.PureR

theorem RealChanges : quarterdecklaw02_RealChanges.Pure := by
  intro x hx; exact changes_law x (wf64 hx)

end Go.Proofs.Ytiamipopddaeiaa.Pure
