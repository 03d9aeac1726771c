/- The closed facts of the row of FnExactCountWinningTurns, each by the kernel. -/
import Derived.Test.YtnicjjnghclgpaaDoorRows
import Derived.JoinedOf
import Derived.ProofKit
namespace Go.Proofs.YtnicjjnghclgpaaDoor.fnExactCountWinningTurns
set_option maxHeartbeats 20000000 in
set_option maxRecDepth 100000 in
theorem closed : joinedFacts Tryd.prog 6 Tryd.f6 Rows.fnExactCountWinningTurnsSpec Rows.fnExactCountWinningTurnsRow = true := by
  unfold joinedFacts
  with_reducible repeat' (refine Bool.and_eq_true_iff.2 ⟨?_, ?_⟩)
  all_goals as_aux_lemma => kernel_rfl
end Go.Proofs.YtnicjjnghclgpaaDoor.fnExactCountWinningTurns
