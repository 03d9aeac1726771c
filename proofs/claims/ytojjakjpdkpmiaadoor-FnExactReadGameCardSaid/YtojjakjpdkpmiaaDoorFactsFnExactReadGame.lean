/- The closed facts of the row of FnExactReadGame, each by the kernel. -/
import Derived.Test.YtojjakjpdkpmiaaDoorRows
import Derived.JoinedOf
import Derived.ProofKit
namespace Go.Proofs.YtojjakjpdkpmiaaDoor.fnExactReadGame
set_option maxHeartbeats 20000000 in
set_option maxRecDepth 100000 in
theorem closed : joinedFacts Tryd.prog 12 Tryd.f12 Rows.fnExactReadGameSpec Rows.fnExactReadGameRow = true := by
  unfold joinedFacts
  with_reducible repeat' (refine Bool.and_eq_true_iff.2 ⟨?_, ?_⟩)
  all_goals as_aux_lemma => kernel_rfl
end Go.Proofs.YtojjakjpdkpmiaaDoor.fnExactReadGame
