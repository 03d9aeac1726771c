/- Words of the kit's print, as print.sh wrote them for this claim: those of them that this claim leans on (chosen by wip/tools/shake.py). -/
import Derived.Test.YtdgglnjegkmamaaDoorWTab
namespace Go.Proofs.YtdgglnjegkmamaaDoorW.PrintLast
section
variable {P : Program} {ops : Array Oper} {Q : Exit → Act → World → Prop} {md : Region.Mode} {T : Bool × List (List Nat × List Nat)} {B : List Nat} {O : List Nat} {b : Nat → Bool} {i j n : Nat}
end
end Go.Proofs.YtdgglnjegkmamaaDoorW.PrintLast
