-- PRINTED BY print.sh 35421559b90ae4d0a3588c463048766b98c2df88dd9212a6774a882060cdf62d: not written by this session
import Derived.Test.YtbhjkaiiebpopaaProg
import Derived.Below
import Derived.Deep.Draws
import Derived.Deep.AppendLies
import Derived.Maps.AppendAt
import Derived.OwnWalk
import Derived.Laws.BytesArg
import Derived.Laws.MakeOwn
import Derived.Laws.OwnMore
import Derived.Deep.OwnRows
import Derived.Tactics
import Derived.Lib.ConvBytes
import Derived.Laws.Slices
import Derived.WalkKit
import Derived.KernelRfl
import Derived.RowKit3
import Derived.Deep.LoopGhost
import Derived.Deep.QuietTactic
import Derived.BigQuiet
import Derived.WideLaws
import Derived.Deep.DeepCutAuto
import Derived.Deep.CutBlock
import Derived.Deep.RegionHeld3
import Derived.Laws.Rows
import Derived.Lib.AppendStr
import Derived.ArgAppend
import Derived.Laws.IdiomCopy
import Derived.OrdersHeld
import Derived.Laws.BitsLemmas
import Derived.RowKit
import Derived.Test.YtbhjkaiiebpopaaWWords
import Derived.Test.YtbhjkaiiebpopaaWLast
import Derived.Test.YtbhjkaiiebpopaaWTab
import Derived.Test.YtbhjkaiiebpopaaWFour
import Derived.Test.YtbhjkaiiebpopaaWQPut
import Derived.Test.YtbhjkaiiebpopaaWApart
import Derived.Test.YtbhjkaiiebpopaaWArr
import Derived.Test.YtbhjkaiiebpopaaWZeros
import Derived.Test.YtbhjkaiiebpopaaWFoot
import Derived.Test.YtbhjkaiiebpopaaWKept
import Derived.Test.YtbhjkaiiebpopaaWShare
import Derived.Test.YtbhjkaiiebpopaaWN
import Derived.Test.YtbhjkaiiebpopaaWFootNe
import Derived.Test.YtbhjkaiiebpopaaWAt
import Derived.Test.YtbhjkaiiebpopaaWEqStruct
import Derived.Test.YtbhjkaiiebpopaaWRepsOne
import Derived.Test.YtbhjkaiiebpopaaWInv
import Derived.Test.YtbhjkaiiebpopaaWInvWords
import Derived.Test.YtbhjkaiiebpopaaWGuard
import Derived.Test.YtbhjkaiiebpopaaWNEv
import Derived.Test.YtbhjkaiiebpopaaWMore
namespace Go.Proofs.Ytbhjkaiiebpopaa.PFnExactTakePeriod
open Go.RowKit Go.Proofs.YtbhjkaiiebpopaaW.PrintWords Go.Proofs.YtbhjkaiiebpopaaW.PrintLast Go.Proofs.YtbhjkaiiebpopaaW.PrintMore
attribute [local go_sem] max2_int min2_int max_two min_two max_three min_three max_four min_four   -- for this text's walks alone
set_option linter.unusedVariables false
set_option linter.unusedSimpArgs false



def errW : Option Int → Value
  | none => .nilIface
  | some c => .iface 0 (.int .i64 c)
theorem errW_none : errW none = .nilIface := rfl
theorem errW_some (c : Int) : errW (some c) = .iface 0 (.int .i64 c) := rfl

theorem info4 : (Try.prog.info? 4).map (fun i => (i.zero, i.size, i.bytes)) = some (some (.bool false), 1, 1) := by kernel_rfl
theorem info47 : (Try.prog.info? 47).map (fun i => (i.zero, i.size, i.bytes)) = some (some (.int .u16 0), 1, 2) := by kernel_rfl
-- the values' own types

end Go.Proofs.Ytbhjkaiiebpopaa.PFnExactTakePeriod
