/- MatrixText's law, in the form that its row wants. No condition but the kinds' bounds and the library's table. -/
import Derived.Test.YtdgglnjegkmamaaDoorMt3
namespace Go.Proofs.YtdgglnjegkmamaaDoor.WalkFnExactMatrixText
open Go.RowKit Go.Proofs.YtdgglnjegkmamaaDoor.QFnExactMatrixText
theorem laws_FnExactMatrixText.calls (a c : Int) (l : List Int) (hl : l.length = 36) (hb : Mx.I8 a c) (hx : ∀ x ∈ l, 0 ≤ x ∧ x ≤ 65535) (w : World) (hLaidPow_ : LaidPow w) :
    Calls Tryd.prog 3 #[.agg (Mx.mat a c l)] w fun e w' => e = .returned (.bool true) ∧ Below w.heap.size w w' := by
  exact Mx.law_MatrixText a c l hl hb hx w hLaidPow_
end Go.Proofs.YtdgglnjegkmamaaDoor.WalkFnExactMatrixText
