/-
  The law RealBack: whole numbers, opposites, doubles and halves come back.
  No conditions beyond the statement's own.
-/
import Derived.Test.YtiamipopddaeiaaPureR
namespace Go.Proofs.Ytiamipopddaeiaa.Pure
open Go.RowKit Go.Proofs.Ytiamipopddaeiaa.Pr Go.Proofs.YtiamipopddaeiaaW.PrintWords Go.Proofs.YtiamipopddaeiaaW.PrintLast Go.Proofs.Ytiamipopddaeiaa.PureR

theorem RealBack : quarterdecklaw02_RealBack.Pure := by
  intro n x _ hx; exact (back_law n x (wf64 hx)).rounds

end Go.Proofs.Ytiamipopddaeiaa.Pure
