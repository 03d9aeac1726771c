/- Words of the kit's print, as print.sh wrote them for this claim: those of them that this claim leans on (chosen by wip/tools/shake.py). -/
import Derived.SizedLaws
import Derived.ChangeSlices
namespace Go.Proofs.YtdgglnjegkmamaaDoorW.PrintWords
open Go.ChangeShapes Go.WideShapes
end Go.Proofs.YtdgglnjegkmamaaDoorW.PrintWords
