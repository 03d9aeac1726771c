/- Words of the kit's print, as print.sh wrote them for this claim: those of them that this claim leans on (chosen by wip/tools/shake.py). -/
import Derived.Test.YtnicjjnghclgpaaDoorWInv
import Derived.Test.YtnicjjnghclgpaaDoorWFootNe
namespace Go.Proofs.YtnicjjnghclgpaaDoorW.PrintWords
open Go.RowKit
end Go.Proofs.YtnicjjnghclgpaaDoorW.PrintWords
namespace Go.Proofs.YtnicjjnghclgpaaDoorW.PrintLast
section
variable {ops : Array Oper} {a : Act} {o og : Oper} {g : Nat} {t : Tmp} {u : Bool}
end
end Go.Proofs.YtnicjjnghclgpaaDoorW.PrintLast
