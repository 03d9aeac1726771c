/- The closed facts of the row of FnExactReadMatrix, each by the kernel. -/
import Derived.Test.YtdgglnjegkmamaaDoorRows
import Derived.JoinedOf
import Derived.ProofKit
namespace Go.Proofs.YtdgglnjegkmamaaDoor.fnExactReadMatrix
set_option maxHeartbeats 20000000 in
set_option maxRecDepth 100000 in
theorem closed : joinedFacts Tryd.prog 4 Tryd.f4 Rows.fnExactReadMatrixSpec Rows.fnExactReadMatrixRow = true := by
  unfold joinedFacts
  with_reducible repeat' (refine Bool.and_eq_true_iff.2 ⟨?_, ?_⟩)
  all_goals as_aux_lemma => kernel_rfl
end Go.Proofs.YtdgglnjegkmamaaDoor.fnExactReadMatrix
