/- The row of the law FnExactRepeatsFrom: whatever the input, it returns true, and its arguments read as they did. It rests on the printed contract of the law's function and on the pure statement in YtnogfpfeimmhjaaPureFnExactRepeatsFrom. No condition. -/
import Derived.Test.YtnogfpfeimmhjaaRows
import Derived.Test.YtnogfpfeimmhjaaQFnExactRepeatsFromx2
import Derived.Test.YtnogfpfeimmhjaaPureFnExactRepeatsFrom
import Derived.Test.YtnogfpfeimmhjaaWSized
import Derived.Test.YtnogfpfeimmhjaaRows2
import Derived.WalkKit
import Derived.ProofKit
import Derived.OpenShut
import Derived.ShutString
import Derived.ChangeOld
import Derived.Below
import Derived.SizedLaws
import Derived.Lib.SmallJoins
namespace Go.Proofs.Ytnogfpfeimmhjaa.fnExactRepeatsFrom
open Go.ChangeShapes Go.WideShapes Go.ChangeAt Go.RowKit Go.Joins
open Go.ChangeMaps (open_string shut_string)
open Go.Proofs.YtnogfpfeimmhjaaW.PrintWords Go.Proofs.YtnogfpfeimmhjaaW.PrintLast Go.Proofs.Ytnogfpfeimmhjaa.Lib
set_option linter.unusedVariables false
set_option linter.unusedSimpArgs false
theorem own : ownKnob Try.prog.godebug = none := by kernel_rfl
theorem laidOut : laidOutB Try.prog = true := by kernel_rfl
set_option maxRecDepth 100000 in
theorem lifted (os : Os) (started : os.Started) (H : Type) (enc : TypeId × Value → H) :
    ReturnsInHanded {} Try.checked os 11 .any (Rows.fnExactRepeatsFromSpec.pre6 enc Try.prog Try.f11 Rows.fnExactRepeatsFromRow.domain false) (Rows.fnExactRepeatsFromSpec.post enc Try.prog Try.f11 false true false false) := by
  refine returnsInHanded_of_change_sized (C := Try.checked) own started (by kernel_rfl) Try.func11
    (ChangeSpec.witness6 (enc := enc) (C := Try.checked) false ⟨#[], #[.slice none 0 0, .int .i64 0, .int .i64 0], []⟩ 8 (by kernel_rfl) (by kernel_rfl) (by kernel_rfl) (by kernel_rfl)) ?_
  intro W base args ds gs before hval0 hW hcnd hsz0 _
  have hsz : (DataW.weightsEach Try.prog (Try.f11.params.toList ++ Rows.fnExactRepeatsFromSpec.plain.varTypes Try.prog) (ds ++ gs)).all (· ≤ reachBytes) = true := hsz0
  have hval : ∀ (j : Nat) t v, Try.f11.params[j]? = some t → args[j]? = some v → Value.okWide Try.prog W .any base t v := hval0
  have hW' := hW
  obtain ⟨p, q, hA0, hV, rfl, hfz, hnd⟩ := hW
  have hA : DataW.TrodAll enc Try.prog W 0 (fun _ => true) true Try.f11.params.toList args.toList ds p := hA0
  rw [Try.params11] at hA hval hsz
  obtain ⟨v0, vs0, d0, ds0, p0, q0, hargs, rfl, rfl, h0, r0⟩ := trodAll_cons hA
  obtain ⟨v1, vs1, d1, ds1, p1, q1, rfl, rfl, rfl, h1, r1⟩ := trodAll_cons r0
  obtain ⟨v2, vs2, d2, ds2, p2, q2, rfl, rfl, rfl, h2, r2⟩ := trodAll_cons r1
  obtain ⟨rfl, rfl, rfl⟩ := trodAll_nil r2
  obtain rfl : args = #[v0, v1, v2] := by cases args; simp_all
  obtain ⟨rfl, rfl⟩ := trodVars_none hV
  obtain ⟨a0, len0, cap0, rfl⟩ := okWide_slice Try.underlying35 (hval 0 35 v0 rfl rfl)
  have k0 := h0
  have lt0 : ∀ x ∈ p0, x.block < W.heap.size := by obtain ⟨m, hm⟩ := k0; exact DataW.trod_lt m _ _ _ hm
  obtain ⟨z0, rfl, hc0, hm0, hr0, hw0⟩ := ints_read Try.underlying35 Try.underlying23 (by kernel_rfl) h0
  have y0 : z0.length * 2 ≤ 140737488351232 := sized_ints hsz (j := 0) (t := 35) rfl rfl Try.underlying35 Try.underlying23 (by kernel_rfl) (by kernel_rfl) k0
  obtain ⟨a1, rfl, rfl, rfl, w1⟩ := open_int Try.underlying2 (hval 1 2 v1 rfl rfl) h1
  obtain ⟨a2, rfl, rfl, rfl, w2⟩ := open_int Try.underlying2 (hval 2 2 v2 rfl rfl) h2
  clear hA0 hval0 hsz0 hsz
  obtain ⟨kr, hk⟩ := Pure.FnExactRepeatsFrom z0 a1 a2 hm0 y0 hw0 w1 w2
  refine (QFnExactRepeatsFrom.laws_FnExactRepeatsFrom.calls kr _ _ z0 a1 a2 true W hr0 hc0 hk).mono ?_
  rintro e W' ⟨rfl, bel0⟩
  have bel : Below W.heap.size W W' := bel0
  exact ⟨_, rfl, _, _, _, [], _, [], hW', trodAll_mk1 (shut_bool Try.underlying4 _), (trodAll_cons_mk (Below.trod laidOut (by kernel_rfl) (of_decide_eq_true (by kernel_rfl)) k0 bel lt0) (trodAll_cons_mk (shut_int Try.underlying2 w1) (trodAll_cons_mk (shut_int Try.underlying2 w2) trodAll_mk0))), rfl, bel.frame _, fun h => by cases h⟩
theorem over : Rows.fnExactRepeatsFromRow.holds Try.pinned (OpenSpec.ofChange Rows.fnExactRepeatsFromSpec) :=
  OpenClaim.holds_of_wide 11 Try.f11 rfl rfl rfl rfl rfl rfl rfl ⟨rfl, rfl, rfl, rfl, rfl⟩ rfl rfl rfl rfl rfl (by kernel_rfl) Try.func11 (by kernel_rfl)
    (of_decide_eq_true (by kernel_rfl)) (by unfold Func.isWrapper; first | (rw [if_pos (by decide +kernel)]; kernel_rfl) | (rw [if_neg (by decide +kernel)]; exact ⟨rfl, rfl⟩))
    (fun os started H enc _ => lifted os started H enc)
theorem proved : Rows.FnExactRepeatsFromSaid := over
#print axioms proved
end Go.Proofs.Ytnogfpfeimmhjaa.fnExactRepeatsFrom
namespace Go.Proofs.Ytnogfpfeimmhjaa
/-- The row, under a short name, for the claim. -/
theorem fnExactRepeatsFrom_holds : Rows.FnExactRepeatsFromSaid := fnExactRepeatsFrom.proved
end Go.Proofs.Ytnogfpfeimmhjaa
