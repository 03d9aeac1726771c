/- Written by the session's own program (wip/myprint.py), for the law FnExactRepeatsFrom: each function as a plain Lean function, and its contract. -/
import Derived.Test.YtnogfpfeimmhjaaProg
import Derived.Below
import Derived.Deep.Draws
import Derived.Deep.AppendLies
import Derived.Maps.AppendAt
import Derived.OwnWalk
import Derived.Laws.BytesArg
import Derived.Laws.MakeOwn
import Derived.Laws.OwnMore
import Derived.Deep.OwnRows
import Derived.Tactics
import Derived.Lib.ConvBytes
import Derived.Laws.Slices
import Derived.WalkKit
import Derived.KernelRfl
import Derived.RowKit3
import Derived.Deep.LoopGhost
import Derived.Deep.QuietTactic
import Derived.BigQuiet
import Derived.WideLaws
import Derived.Deep.DeepCutAuto
import Derived.Deep.CutBlock
import Derived.Deep.RegionHeld3
import Derived.Laws.Rows
import Derived.Lib.AppendStr
import Derived.ArgAppend
import Derived.Laws.IdiomCopy
import Derived.OrdersHeld
import Derived.Laws.BitsLemmas
import Derived.RowKit
import Derived.Test.YtnogfpfeimmhjaaWWords
import Derived.Test.YtnogfpfeimmhjaaWLast
import Derived.Test.YtnogfpfeimmhjaaWTab
import Derived.Test.YtnogfpfeimmhjaaWFour
import Derived.Test.YtnogfpfeimmhjaaWQPut
import Derived.Test.YtnogfpfeimmhjaaWApart
import Derived.Test.YtnogfpfeimmhjaaWArr
import Derived.Test.YtnogfpfeimmhjaaWZeros
import Derived.Test.YtnogfpfeimmhjaaWFoot
import Derived.Test.YtnogfpfeimmhjaaWKept
import Derived.Test.YtnogfpfeimmhjaaWShare
import Derived.Test.YtnogfpfeimmhjaaWN
import Derived.Test.YtnogfpfeimmhjaaWFootNe
import Derived.Test.YtnogfpfeimmhjaaWAt
import Derived.Test.YtnogfpfeimmhjaaWEqStruct
import Derived.Test.YtnogfpfeimmhjaaWRepsOne
import Derived.Test.YtnogfpfeimmhjaaWInv
import Derived.Test.YtnogfpfeimmhjaaWInvWords
import Derived.Test.YtnogfpfeimmhjaaWGuard
import Derived.Test.YtnogfpfeimmhjaaWNEv
import Derived.Test.YtnogfpfeimmhjaaWMore
namespace Go.Proofs.Ytnogfpfeimmhjaa.QFnExactRepeatsFrom
open Go.RowKit Go.Proofs.YtnogfpfeimmhjaaW.PrintWords Go.Proofs.YtnogfpfeimmhjaaW.PrintLast Go.Proofs.YtnogfpfeimmhjaaW.PrintMore
attribute [local go_sem] max2_int min2_int max_two min_two max_three min_three max_four min_four   -- for this text's walks alone
set_option linter.unusedVariables false
set_option linter.unusedSimpArgs false



def errW : Option Int → Value
  | none => .nilIface
  | some c => .iface 0 (.int .i64 c)
theorem errW_none : errW none = .nilIface := rfl
theorem errW_some (c : Int) : errW (some c) = .iface 0 (.int .i64 c) := rfl

theorem info24 : (Try.prog.info? 24).map (fun i => (i.zero, i.size, i.bytes)) = some (some (.int .u16 0), 1, 2) := by kernel_rfl
-- the values' own types

end Go.Proofs.Ytnogfpfeimmhjaa.QFnExactRepeatsFrom
