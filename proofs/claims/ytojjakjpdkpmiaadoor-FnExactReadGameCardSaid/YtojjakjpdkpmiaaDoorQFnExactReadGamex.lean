/- Written by the session's own program (wip/myprint.py), for the law FnExactReadGame: each function as a plain Lean function, and its contract. -/
import Derived.Test.YtojjakjpdkpmiaaDoorQFnExactReadGamex0
import Derived.Test.YtojjakjpdkpmiaaDoorQFnExactReadGamex1
import Derived.Test.YtojjakjpdkpmiaaDoorQFnExactReadGamex2
import Derived.Test.YtojjakjpdkpmiaaDoorQFnExactReadGamex3
import Derived.Test.YtojjakjpdkpmiaaDoorQFnExactReadGamex4
namespace Go.Proofs.YtojjakjpdkpmiaaDoor.QFnExactReadGame
open Go.RowKit Go.Proofs.YtojjakjpdkpmiaaDoorW.PrintWords Go.Proofs.YtojjakjpdkpmiaaDoorW.PrintLast Go.Proofs.YtojjakjpdkpmiaaDoorW.PrintMore
attribute [local go_sem] max2_int min2_int max_two min_two max_three min_three max_four min_four   -- for this text's walks alone
set_option linter.unusedVariables false
set_option linter.unusedSimpArgs false

end Go.Proofs.YtojjakjpdkpmiaaDoor.QFnExactReadGame
