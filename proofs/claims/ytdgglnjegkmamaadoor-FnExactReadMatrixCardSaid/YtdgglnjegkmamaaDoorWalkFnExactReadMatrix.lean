/- ReadMatrix's law, in the form that its row wants. No condition but the text's length and the library's variables. -/
import Derived.Test.YtdgglnjegkmamaaDoorMr3
set_option linter.unusedVariables false
namespace Go.Proofs.YtdgglnjegkmamaaDoor.WalkFnExactReadMatrix
open Go.RowKit Go.Proofs.YtdgglnjegkmamaaDoor.QFnExactReadMatrix
theorem laws_FnExactReadMatrix.calls (a0 : ByteArray) (y0 : a0.size ≤ maxLen) (w : World) (hLaidErr_ : LaidErr w) (hLaidMax_ : LaidMax w) (hLaidPow_ : LaidPow w) :
    Calls Tryd.prog 4 #[.string a0] w fun e w' => e = .returned (.bool true) ∧ Below w.heap.size w w' := by
  exact Mx.law_ReadMatrix a0 w hLaidErr_ hLaidMax_ hLaidPow_
end Go.Proofs.YtdgglnjegkmamaaDoor.WalkFnExactReadMatrix
