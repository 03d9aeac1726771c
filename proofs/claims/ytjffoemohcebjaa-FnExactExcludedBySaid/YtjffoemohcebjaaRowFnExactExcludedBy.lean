/- The row of the law FnExactExcludedBy: whatever the input, it returns true, and its arguments read as they did. It rests on the printed contract of the law's function and on the pure statement in YtjffoemohcebjaaPureFnExactExcludedBy. No condition. -/
import Derived.Test.YtjffoemohcebjaaRows
import Derived.Test.YtjffoemohcebjaaQFnExactExcludedByx2
import Derived.Test.YtjffoemohcebjaaPureFnExactExcludedBy
import Derived.Test.YtjffoemohcebjaaWSized
import Derived.Test.YtjffoemohcebjaaRows2
import Derived.WalkKit
import Derived.ProofKit
import Derived.OpenShut
import Derived.ShutString
import Derived.ChangeOld
import Derived.Below
import Derived.SizedLaws
import Derived.Lib.SmallJoins
namespace Go.Proofs.Ytjffoemohcebjaa.fnExactExcludedBy
open Go.ChangeShapes Go.WideShapes Go.ChangeAt Go.RowKit Go.Joins
open Go.ChangeMaps (open_string shut_string)
open Go.Proofs.YtjffoemohcebjaaW.PrintWords Go.Proofs.YtjffoemohcebjaaW.PrintLast Go.Proofs.Ytjffoemohcebjaa.Lib
set_option linter.unusedVariables false
set_option linter.unusedSimpArgs false
theorem own : ownKnob Try.prog.godebug = none := by kernel_rfl
theorem laidOut : laidOutB Try.prog = true := by kernel_rfl
set_option maxRecDepth 100000 in
theorem lifted (os : Os) (started : os.Started) (H : Type) (enc : TypeId × Value → H) :
    ReturnsInHanded {} Try.checked os 9 .any (Rows.fnExactExcludedBySpec.pre6 enc Try.prog Try.f9 Rows.fnExactExcludedByRow.domain false) (Rows.fnExactExcludedBySpec.post enc Try.prog Try.f9 false true false false) := by
  refine returnsInHanded_of_change_sized (C := Try.checked) own started (by kernel_rfl) Try.func9
    (ChangeSpec.witness6 (enc := enc) (C := Try.checked) false ⟨#[], #[.slice none 0 0], []⟩ 8 (by kernel_rfl) (by kernel_rfl) (by kernel_rfl) (by kernel_rfl)) ?_
  intro W base args ds gs before hval0 hW hcnd hsz0 _
  have hsz : (DataW.weightsEach Try.prog (Try.f9.params.toList ++ Rows.fnExactExcludedBySpec.plain.varTypes Try.prog) (ds ++ gs)).all (· ≤ reachBytes) = true := hsz0
  have hval : ∀ (j : Nat) t v, Try.f9.params[j]? = some t → args[j]? = some v → Value.okWide Try.prog W .any base t v := hval0
  have hW' := hW
  obtain ⟨p, q, hA0, hV, rfl, hfz, hnd⟩ := hW
  have hA : DataW.TrodAll enc Try.prog W 0 (fun _ => true) true Try.f9.params.toList args.toList ds p := hA0
  rw [Try.params9] at hA hval hsz
  obtain ⟨v0, vs0, d0, ds0, p0, q0, hargs, rfl, rfl, h0, r0⟩ := trodAll_cons hA
  obtain ⟨rfl, rfl, rfl⟩ := trodAll_nil r0
  obtain rfl : args = #[v0] := by cases args; simp_all
  obtain ⟨rfl, rfl⟩ := trodVars_none hV
  obtain ⟨a0, len0, cap0, rfl⟩ := okWide_slice Try.underlying47 (hval 0 47 v0 rfl rfl)
  have k0 := h0
  have lt0 : ∀ x ∈ p0, x.block < W.heap.size := by obtain ⟨m, hm⟩ := k0; exact DataW.trod_lt m _ _ _ hm
  obtain ⟨z0, rfl, hc0, hm0, hr0, hw0⟩ := ints_read Try.underlying47 Try.underlying23 (by kernel_rfl) h0
  have y0 : z0.length * 2 ≤ 140737488351232 := sized_ints hsz (j := 0) (t := 47) rfl rfl Try.underlying47 Try.underlying23 (by kernel_rfl) (by kernel_rfl) k0
  clear hA0 hval0 hsz0 hsz
  obtain ⟨kr, hk⟩ := Pure.FnExactExcludedBy z0 hm0 y0 hw0
  refine (QFnExactExcludedBy.laws_FnExactExcludedBy.calls kr _ _ z0 true W hr0 hc0 hk).mono ?_
  rintro e W' ⟨rfl, bel0⟩
  have bel : Below W.heap.size W W' := bel0
  exact ⟨_, rfl, _, _, _, [], _, [], hW', trodAll_mk1 (shut_bool Try.underlying4 _), (trodAll_cons_mk (Below.trod laidOut (by kernel_rfl) (of_decide_eq_true (by kernel_rfl)) k0 bel lt0) trodAll_mk0), rfl, bel.frame _, fun h => by cases h⟩
theorem over : Rows.fnExactExcludedByRow.holds Try.pinned (OpenSpec.ofChange Rows.fnExactExcludedBySpec) :=
  OpenClaim.holds_of_wide 9 Try.f9 rfl rfl rfl rfl rfl rfl rfl ⟨rfl, rfl, rfl, rfl, rfl⟩ rfl rfl rfl rfl rfl (by kernel_rfl) Try.func9 (by kernel_rfl)
    (of_decide_eq_true (by kernel_rfl)) (by unfold Func.isWrapper; first | (rw [if_pos (by decide +kernel)]; kernel_rfl) | (rw [if_neg (by decide +kernel)]; exact ⟨rfl, rfl⟩))
    (fun os started H enc _ => lifted os started H enc)
theorem proved : Rows.FnExactExcludedBySaid := over
#print axioms proved
end Go.Proofs.Ytjffoemohcebjaa.fnExactExcludedBy
namespace Go.Proofs.Ytjffoemohcebjaa
/-- The row, under a short name, for the claim. -/
theorem fnExactExcludedBy_holds : Rows.FnExactExcludedBySaid := fnExactExcludedBy.proved
end Go.Proofs.Ytjffoemohcebjaa
