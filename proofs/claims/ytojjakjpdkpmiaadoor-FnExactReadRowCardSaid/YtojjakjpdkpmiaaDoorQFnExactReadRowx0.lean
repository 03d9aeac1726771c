/- Written by the session's own program (wip/myprint.py), for the law FnExactReadRow: each function as a plain Lean function, and its contract. -/
import Derived.Test.YtojjakjpdkpmiaaDoorProg
import Derived.Below
import Derived.Deep.Draws
import Derived.Deep.AppendLies
import Derived.Maps.AppendAt
import Derived.OwnWalk
import Derived.Laws.BytesArg
import Derived.Laws.MakeOwn
import Derived.Laws.OwnMore
import Derived.Deep.OwnRows
import Derived.Tactics
import Derived.Lib.ConvBytes
import Derived.Laws.Slices
import Derived.WalkKit
import Derived.KernelRfl
import Derived.RowKit3
import Derived.Deep.LoopGhost
import Derived.Deep.QuietTactic
import Derived.BigQuiet
import Derived.WideLaws
import Derived.Deep.DeepCutAuto
import Derived.Deep.CutBlock
import Derived.Deep.RegionHeld3
import Derived.Laws.Rows
import Derived.Lib.AppendStr
import Derived.ArgAppend
import Derived.Laws.IdiomCopy
import Derived.OrdersHeld
import Derived.Laws.BitsLemmas
import Derived.RowKit
import Derived.Lib.AtoiErrMem
import Derived.Shelf.Strings.SlTrimAscii
import Derived.Test.YtojjakjpdkpmiaaDoorShFmt
import Derived.Test.YtojjakjpdkpmiaaDoorShJoin
import Derived.Test.YtojjakjpdkpmiaaDoorShParse
import Derived.Test.YtojjakjpdkpmiaaDoorShTrim
import Derived.WalkSmall
import Derived.Test.YtojjakjpdkpmiaaDoorWWords
import Derived.Test.YtojjakjpdkpmiaaDoorWLast
import Derived.Test.YtojjakjpdkpmiaaDoorWTab
import Derived.Test.YtojjakjpdkpmiaaDoorWFour
import Derived.Test.YtojjakjpdkpmiaaDoorWQPut
import Derived.Test.YtojjakjpdkpmiaaDoorWApart
import Derived.Test.YtojjakjpdkpmiaaDoorWArr
import Derived.Test.YtojjakjpdkpmiaaDoorWZeros
import Derived.Test.YtojjakjpdkpmiaaDoorWFoot
import Derived.Test.YtojjakjpdkpmiaaDoorWKept
import Derived.Test.YtojjakjpdkpmiaaDoorWShare
import Derived.Test.YtojjakjpdkpmiaaDoorWN
import Derived.Test.YtojjakjpdkpmiaaDoorWFootNe
import Derived.Test.YtojjakjpdkpmiaaDoorWAt
import Derived.Test.YtojjakjpdkpmiaaDoorWEqStruct
import Derived.Test.YtojjakjpdkpmiaaDoorWRepsOne
import Derived.Test.YtojjakjpdkpmiaaDoorWInv
import Derived.Test.YtojjakjpdkpmiaaDoorWInvWords
import Derived.Test.YtojjakjpdkpmiaaDoorWGuard
import Derived.Test.YtojjakjpdkpmiaaDoorWNEv
import Derived.Test.YtojjakjpdkpmiaaDoorWMore
namespace Go.Proofs.YtojjakjpdkpmiaaDoor.QFnExactReadRow
open Go.RowKit Go.Proofs.YtojjakjpdkpmiaaDoorW.PrintWords Go.Proofs.YtojjakjpdkpmiaaDoorW.PrintLast Go.Proofs.YtojjakjpdkpmiaaDoorW.PrintMore
attribute [local go_sem] max2_int min2_int max_two min_two max_three min_three max_four min_four   -- for this text's walks alone
set_option linter.unusedVariables false
set_option linter.unusedSimpArgs false



def errW : Option Int → Value
  | none => .nilIface
  | some c => .iface 0 (.int .i64 c)
theorem errW_none : errW none = .nilIface := rfl
theorem errW_some (c : Int) : errW (some c) = .iface 0 (.int .i64 c) := rfl

-- the values' own types

end Go.Proofs.YtojjakjpdkpmiaaDoor.QFnExactReadRow
