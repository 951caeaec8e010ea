/-
  The law RealWhole: any whole number as a real one, and the whole part of any bits, are what the reference says.
  No conditions beyond the statement's own.
-/
import Derived.Test.YtiamipopddaeiaaPureR
namespace Go.Proofs.Ytiamipopddaeiaa.Pure
open Go.RowKit Go.Proofs.Ytiamipopddaeiaa.Pr Go.Proofs.YtiamipopddaeiaaW.PrintWords Go.Proofs.YtiamipopddaeiaaW.PrintLast Go.Proofs.Ytiamipopddaeiaa.PureR

theorem RealWhole : quarterdecklaw02_RealWhole.Pure := by
  intro n x _ hx; exact (whole_law n x (wf64 hx)).rounds

end Go.Proofs.Ytiamipopddaeiaa.Pure
