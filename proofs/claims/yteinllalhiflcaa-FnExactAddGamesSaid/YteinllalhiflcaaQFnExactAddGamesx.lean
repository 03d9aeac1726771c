/- Written by the session's own program (wip/myprint.py), for the law FnExactAddGames: each function as a plain Lean function, and its contract. -/
import Derived.Test.YteinllalhiflcaaQFnExactAddGamesx0
import Derived.Test.YteinllalhiflcaaQFnExactAddGamesx1
import Derived.Test.YteinllalhiflcaaQFnExactAddGamesx2
import Derived.Test.YteinllalhiflcaaQFnExactAddGamesx3
import Derived.Test.YteinllalhiflcaaQFnExactAddGamesx4
import Derived.Test.YteinllalhiflcaaQFnExactAddGamesx5
import Derived.Test.YteinllalhiflcaaQFnExactAddGamesx6
import Derived.Test.YteinllalhiflcaaQFnExactAddGamesx7
import Derived.Test.YteinllalhiflcaaQFnExactAddGamesx8
import Derived.Test.YteinllalhiflcaaQFnExactAddGamesx9
namespace Go.Proofs.Yteinllalhiflcaa.QFnExactAddGames
open Go.RowKit Go.Proofs.YteinllalhiflcaaW.PrintWords Go.Proofs.YteinllalhiflcaaW.PrintLast Go.Proofs.YteinllalhiflcaaW.PrintMore
attribute [local go_sem] max2_int min2_int max_two min_two max_three min_three max_four min_four   -- for this text's walks alone
set_option linter.unusedVariables false
set_option linter.unusedSimpArgs false

end Go.Proofs.Yteinllalhiflcaa.QFnExactAddGames
