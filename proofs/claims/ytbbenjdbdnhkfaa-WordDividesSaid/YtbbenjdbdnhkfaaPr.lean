-- Written by a program of this session (wip/given_print.py) for this claim. Not trusted: Lean checks it.
import Derived.Test.YtbbenjdbdnhkfaaPr0
import Derived.Test.YtbbenjdbdnhkfaaPr1
import Derived.Test.YtbbenjdbdnhkfaaPr2
import Derived.Test.YtbbenjdbdnhkfaaPr3
import Derived.Test.YtbbenjdbdnhkfaaPr4
namespace Go.Proofs.Ytbbenjdbdnhkfaa.Pr
open Go.RowKit Go.Proofs.YtbbenjdbdnhkfaaW.PrintWords Go.Proofs.YtbbenjdbdnhkfaaW.PrintLast Go.Proofs.YtbbenjdbdnhkfaaW.PrintMore
attribute [local go_sem] max2_int min2_int max_two min_two max_three min_three max_four min_four   -- for this text's walks alone
set_option linter.unusedVariables false
set_option linter.unusedSimpArgs false

end Go.Proofs.Ytbbenjdbdnhkfaa.Pr
