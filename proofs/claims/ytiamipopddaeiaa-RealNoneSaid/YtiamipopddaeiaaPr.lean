/- Go functions of this seat as Lean functions, each with the proof that its call comes to just that, and the rows over them; written by a program of this session (wip/given_print.py); the conditions are the premises that each theorem names. -/
import Derived.Test.YtiamipopddaeiaaPr0
import Derived.Test.YtiamipopddaeiaaPr1
import Derived.Test.YtiamipopddaeiaaPr2
import Derived.Test.YtiamipopddaeiaaPr3
import Derived.Test.YtiamipopddaeiaaPr4
namespace Go.Proofs.Ytiamipopddaeiaa.Pr
open Go.RowKit Go.Proofs.YtiamipopddaeiaaW.PrintWords Go.Proofs.YtiamipopddaeiaaW.PrintLast Go.Proofs.YtiamipopddaeiaaW.PrintMore
attribute [local go_sem] max2_int min2_int max_two min_two max_three min_three max_four min_four   -- for this text's walks alone
set_option linter.unusedVariables false
set_option linter.unusedSimpArgs false

end Go.Proofs.Ytiamipopddaeiaa.Pr
