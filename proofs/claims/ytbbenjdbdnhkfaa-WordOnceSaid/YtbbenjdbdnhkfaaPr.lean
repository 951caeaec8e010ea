/- Go functions of this seat as Lean functions, each with the proof that its call comes to just that, and the rows over them; written by a program of this session (wip/given_print.py); the conditions are the premises that each theorem names. -/
import Derived.Test.YtbbenjdbdnhkfaaPr0
import Derived.Test.YtbbenjdbdnhkfaaPr1
import Derived.Test.YtbbenjdbdnhkfaaPr2
import Derived.Test.YtbbenjdbdnhkfaaPr3
import Derived.Test.YtbbenjdbdnhkfaaPr4
import Derived.Test.YtbbenjdbdnhkfaaPr5
namespace Go.Proofs.Ytbbenjdbdnhkfaa.Pr
open Go.RowKit Go.Proofs.YtbbenjdbdnhkfaaW.PrintWords Go.Proofs.YtbbenjdbdnhkfaaW.PrintLast Go.Proofs.YtbbenjdbdnhkfaaW.PrintMore
attribute [local go_sem] max2_int min2_int max_two min_two max_three min_three max_four min_four   -- for this text's walks alone
set_option linter.unusedVariables false
set_option linter.unusedSimpArgs false

end Go.Proofs.Ytbbenjdbdnhkfaa.Pr
