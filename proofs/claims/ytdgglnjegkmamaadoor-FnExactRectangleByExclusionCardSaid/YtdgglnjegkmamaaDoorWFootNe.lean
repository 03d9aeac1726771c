/- Words of the kit's print, as print.sh wrote them for this claim: those of them that this claim leans on (chosen by wip/tools/shake.py). -/
import Derived.Test.YtdgglnjegkmamaaDoorWN
namespace Go.Proofs.YtdgglnjegkmamaaDoorW.PrintWords
open Go.RowKit
namespace Kd
section
variable {α : Type} {d : Kd α} {W : World} {g n : Nat} {S ok : Nat → Prop} {A : Option Addr} {ad : Addr} {xs : List α}
end
end Kd
end Go.Proofs.YtdgglnjegkmamaaDoorW.PrintWords
