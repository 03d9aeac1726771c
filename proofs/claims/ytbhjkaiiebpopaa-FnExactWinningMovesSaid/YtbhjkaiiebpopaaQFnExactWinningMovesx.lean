/- Written by the session's own program (wip/myprint.py), for the law FnExactWinningMoves: each function as a plain Lean function, and its contract. -/
import Derived.Test.YtbhjkaiiebpopaaQFnExactWinningMovesx0
import Derived.Test.YtbhjkaiiebpopaaQFnExactWinningMovesx1
import Derived.Test.YtbhjkaiiebpopaaQFnExactWinningMovesx2
import Derived.Test.YtbhjkaiiebpopaaQFnExactWinningMovesx3
import Derived.Test.YtbhjkaiiebpopaaQFnExactWinningMovesx4
import Derived.Test.YtbhjkaiiebpopaaQFnExactWinningMovesx5
import Derived.Test.YtbhjkaiiebpopaaQFnExactWinningMovesx6
import Derived.Test.YtbhjkaiiebpopaaQFnExactWinningMovesx7
namespace Go.Proofs.Ytbhjkaiiebpopaa.QFnExactWinningMoves
open Go.RowKit Go.Proofs.YtbhjkaiiebpopaaW.PrintWords Go.Proofs.YtbhjkaiiebpopaaW.PrintLast Go.Proofs.YtbhjkaiiebpopaaW.PrintMore
attribute [local go_sem] max2_int min2_int max_two min_two max_three min_three max_four min_four   -- for this text's walks alone
set_option linter.unusedVariables false
set_option linter.unusedSimpArgs false

end Go.Proofs.Ytbhjkaiiebpopaa.QFnExactWinningMoves
