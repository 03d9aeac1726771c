/- Words of the kit's print, as print.sh wrote them for this claim: those of them that this claim leans on (chosen by wip/tools/shake.py). -/
import Derived.Test.YtojjakjpdkpmiaaGreatDoorWInv
import Derived.Test.YtojjakjpdkpmiaaGreatDoorWFootNe
namespace Go.Proofs.YtojjakjpdkpmiaaGreatDoorW.PrintWords
open Go.RowKit
end Go.Proofs.YtojjakjpdkpmiaaGreatDoorW.PrintWords
namespace Go.Proofs.YtojjakjpdkpmiaaGreatDoorW.PrintLast
section
variable {ops : Array Oper} {a : Act} {o og : Oper} {g : Nat} {t : Tmp} {u : Bool}
end
end Go.Proofs.YtojjakjpdkpmiaaGreatDoorW.PrintLast
