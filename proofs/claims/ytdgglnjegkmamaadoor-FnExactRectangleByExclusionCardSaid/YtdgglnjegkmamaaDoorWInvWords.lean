/- Words of the kit's print, as print.sh wrote them for this claim: those of them that this claim leans on (chosen by wip/tools/shake.py). -/
import Derived.Test.YtdgglnjegkmamaaDoorWInv
import Derived.Test.YtdgglnjegkmamaaDoorWFootNe
namespace Go.Proofs.YtdgglnjegkmamaaDoorW.PrintWords
open Go.RowKit
end Go.Proofs.YtdgglnjegkmamaaDoorW.PrintWords
namespace Go.Proofs.YtdgglnjegkmamaaDoorW.PrintLast
section
variable {ops : Array Oper} {a : Act} {o og : Oper} {g : Nat} {t : Tmp} {u : Bool}
end
end Go.Proofs.YtdgglnjegkmamaaDoorW.PrintLast
