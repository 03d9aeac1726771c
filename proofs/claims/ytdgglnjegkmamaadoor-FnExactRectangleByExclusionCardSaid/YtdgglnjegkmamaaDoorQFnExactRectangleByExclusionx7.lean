/- Written by the session's own program (wip/myprint.py), for the law FnExactRectangleByExclusion: each function as a plain Lean function, and its contract. -/
import Derived.Test.YtdgglnjegkmamaaDoorQFnExactRectangleByExclusionx0
namespace Go.Proofs.YtdgglnjegkmamaaDoor.QFnExactRectangleByExclusion
open Go.RowKit Go.Proofs.YtdgglnjegkmamaaDoorW.PrintWords Go.Proofs.YtdgglnjegkmamaaDoorW.PrintLast Go.Proofs.YtdgglnjegkmamaaDoorW.PrintMore
attribute [local go_sem] max2_int min2_int max_two min_two max_three min_three max_four min_four   -- for this text's walks alone
set_option linter.unusedVariables false
set_option linter.unusedSimpArgs false

/-! ### slices_partitionEqualOrdered_uint32: function 83 -/
/-- Nothing is told of it: the proof does not come to it. -/
def slices_partitionEqualOrdered_uint32.f (l0 : List Int) (a1 : Int) (a2 : Int) (a3 : Int) : Option (Int × List Int) := none
theorem slices_partitionEqualOrdered_uint32.calls (P0_ : Nat → Prop) (u9000_ : Value) (l0 : List Int) (a1 : Int) (a2 : Int) (a3 : Int) (r1 : Int) (r2 : List Int) (w0 w : World) (hB : Below w0.heap.size w0 w) (ho0 : Kd.R (Kd.int .u32) 67 w w0.heap.size P0_ u9000_ l0) (h : slices_partitionEqualOrdered_uint32.f l0 a1 a2 a3 = some (r1, r2)) :
    Calls Tryd.prog 83 #[u9000_, .int .i64 a1, .int .i64 a2, .int .i64 a3] w fun e w' => e = .returned (.int .i64 r1) ∧ Kd.R (Kd.int .u32) 67 w' w0.heap.size (fun k_ => (P0_ k_ ∨ w.heap.size ≤ k_)) u9000_ r2 ∧ Below w0.heap.size w0 w' ∧ Kept w w' (fun k_ => P0_ k_) := by
  unfold slices_partitionEqualOrdered_uint32.f at h
  exact absurd h (by simp)

end Go.Proofs.YtdgglnjegkmamaaDoor.QFnExactRectangleByExclusion
