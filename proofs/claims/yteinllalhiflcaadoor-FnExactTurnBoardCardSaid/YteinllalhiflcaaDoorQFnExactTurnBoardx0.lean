/- Written by the session's own program (wip/myprint.py), for the law FnExactTurnBoard: each function as a plain Lean function, and its contract. -/
import Derived.Test.YteinllalhiflcaaDoorProg
import Derived.Below
import Derived.Deep.Draws
import Derived.Deep.AppendLies
import Derived.Maps.AppendAt
import Derived.OwnWalk
import Derived.Laws.BytesArg
import Derived.Laws.MakeOwn
import Derived.Laws.OwnMore
import Derived.Deep.OwnRows
import Derived.Tactics
import Derived.Lib.ConvBytes
import Derived.Laws.Slices
import Derived.WalkKit
import Derived.KernelRfl
import Derived.RowKit3
import Derived.Deep.LoopGhost
import Derived.Deep.QuietTactic
import Derived.BigQuiet
import Derived.WideLaws
import Derived.Deep.DeepCutAuto
import Derived.Deep.CutBlock
import Derived.Deep.RegionHeld3
import Derived.Laws.Rows
import Derived.Lib.AppendStr
import Derived.ArgAppend
import Derived.Laws.IdiomCopy
import Derived.OrdersHeld
import Derived.Laws.BitsLemmas
import Derived.RowKit
import Derived.Test.YteinllalhiflcaaDoorWWords
import Derived.Test.YteinllalhiflcaaDoorWLast
import Derived.Test.YteinllalhiflcaaDoorWTab
import Derived.Test.YteinllalhiflcaaDoorWFour
import Derived.Test.YteinllalhiflcaaDoorWQPut
import Derived.Test.YteinllalhiflcaaDoorWApart
import Derived.Test.YteinllalhiflcaaDoorWArr
import Derived.Test.YteinllalhiflcaaDoorWZeros
import Derived.Test.YteinllalhiflcaaDoorWFoot
import Derived.Test.YteinllalhiflcaaDoorWKept
import Derived.Test.YteinllalhiflcaaDoorWShare
import Derived.Test.YteinllalhiflcaaDoorWN
import Derived.Test.YteinllalhiflcaaDoorWFootNe
import Derived.Test.YteinllalhiflcaaDoorWAt
import Derived.Test.YteinllalhiflcaaDoorWEqStruct
import Derived.Test.YteinllalhiflcaaDoorWRepsOne
import Derived.Test.YteinllalhiflcaaDoorWInv
import Derived.Test.YteinllalhiflcaaDoorWInvWords
import Derived.Test.YteinllalhiflcaaDoorWGuard
import Derived.Test.YteinllalhiflcaaDoorWNEv
import Derived.Test.YteinllalhiflcaaDoorWMore
namespace Go.Proofs.YteinllalhiflcaaDoor.QFnExactTurnBoard
open Go.RowKit Go.Proofs.YteinllalhiflcaaDoorW.PrintWords Go.Proofs.YteinllalhiflcaaDoorW.PrintLast Go.Proofs.YteinllalhiflcaaDoorW.PrintMore
attribute [local go_sem] max2_int min2_int max_two min_two max_three min_three max_four min_four   -- for this text's walks alone
set_option linter.unusedVariables false
set_option linter.unusedSimpArgs false



def errW : Option Int → Value
  | none => .nilIface
  | some c => .iface 0 (.int .i64 c)
theorem errW_none : errW none = .nilIface := rfl
theorem errW_some (c : Int) : errW (some c) = .iface 0 (.int .i64 c) := rfl

-- the values' own types

end Go.Proofs.YteinllalhiflcaaDoor.QFnExactTurnBoard
