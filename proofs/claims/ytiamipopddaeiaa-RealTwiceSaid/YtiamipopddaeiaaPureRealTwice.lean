/-
  The law RealTwice: twice a whole number is that of its double, half of an even one that of its half.
  No conditions beyond the statement's own.
-/
import Derived.Test.YtiamipopddaeiaaPureR
namespace Go.Proofs.Ytiamipopddaeiaa.Pure
open Go.RowKit Go.Proofs.Ytiamipopddaeiaa.Pr Go.Proofs.YtiamipopddaeiaaW.PrintWords Go.Proofs.YtiamipopddaeiaaW.PrintLast Go.Proofs.Ytiamipopddaeiaa.PureR

theorem RealTwice : quarterdecklaw02_RealTwice.Pure := by
  intro n hn; exact (twice_law n (wf64 hn)).rounds

end Go.Proofs.Ytiamipopddaeiaa.Pure
