/- Written by the session's own program (wip/myprint.py), for the law FnExactValuesOf: each function as a plain Lean function, and its contract. -/
import Derived.Test.YtbhjkaiiebpopaaQFnExactValuesOfx0
import Derived.Test.YtbhjkaiiebpopaaQFnExactValuesOfx1
import Derived.Test.YtbhjkaiiebpopaaQFnExactValuesOfx2
import Derived.Test.YtbhjkaiiebpopaaQFnExactValuesOfx3
import Derived.Test.YtbhjkaiiebpopaaQFnExactValuesOfx4
namespace Go.Proofs.Ytbhjkaiiebpopaa.QFnExactValuesOf
open Go.RowKit Go.Proofs.YtbhjkaiiebpopaaW.PrintWords Go.Proofs.YtbhjkaiiebpopaaW.PrintLast Go.Proofs.YtbhjkaiiebpopaaW.PrintMore
attribute [local go_sem] max2_int min2_int max_two min_two max_three min_three max_four min_four   -- for this text's walks alone
set_option linter.unusedVariables false
set_option linter.unusedSimpArgs false

end Go.Proofs.Ytbhjkaiiebpopaa.QFnExactValuesOf
