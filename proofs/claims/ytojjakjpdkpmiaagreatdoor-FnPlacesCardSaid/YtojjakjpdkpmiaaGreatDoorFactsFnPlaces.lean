/- The closed facts of the row of FnPlaces, each by the kernel. -/
import Derived.Test.YtojjakjpdkpmiaaGreatDoorRows
import Derived.JoinedOf
import Derived.ProofKit
namespace Go.Proofs.YtojjakjpdkpmiaaGreatDoor.fnPlaces
set_option maxHeartbeats 20000000 in
set_option maxRecDepth 100000 in
theorem closed : joinedFacts Tryz.prog 3 Tryz.f3 Rows.fnPlacesSpec Rows.fnPlacesRow = true := by
  unfold joinedFacts
  with_reducible repeat' (refine Bool.and_eq_true_iff.2 ⟨?_, ?_⟩)
  all_goals as_aux_lemma => kernel_rfl
end Go.Proofs.YtojjakjpdkpmiaaGreatDoor.fnPlaces
