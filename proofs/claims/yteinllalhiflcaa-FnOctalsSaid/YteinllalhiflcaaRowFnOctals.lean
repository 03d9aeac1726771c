/- The row of the law FnOctals: whatever the input, it returns true, and its arguments read as they did. It rests on the printed contract of the law's function and on the pure statement in YteinllalhiflcaaPureFnOctals. No condition. -/
import Derived.Test.YteinllalhiflcaaRows
import Derived.Test.YteinllalhiflcaaQFnOctalsx7
import Derived.Test.YteinllalhiflcaaPureFnOctals
import Derived.Test.YteinllalhiflcaaWSized
import Derived.Test.YteinllalhiflcaaRows2
import Derived.WalkKit
import Derived.ProofKit
import Derived.OpenShut
import Derived.ShutString
import Derived.ChangeOld
import Derived.Below
import Derived.SizedLaws
import Derived.Lib.SmallJoins
namespace Go.Proofs.Yteinllalhiflcaa.fnOctals
open Go.ChangeShapes Go.WideShapes Go.ChangeAt Go.RowKit Go.Joins
open Go.ChangeMaps (open_string shut_string)
open Go.Proofs.YteinllalhiflcaaW.PrintWords Go.Proofs.YteinllalhiflcaaW.PrintLast Go.Proofs.Yteinllalhiflcaa.Lib
set_option linter.unusedVariables false
set_option linter.unusedSimpArgs false
theorem own : ownKnob Try.prog.godebug = none := by kernel_rfl
theorem laidOut : laidOutB Try.prog = true := by kernel_rfl
set_option maxRecDepth 100000 in
theorem lifted (os : Os) (started : os.Started) (H : Type) (enc : TypeId × Value → H) :
    ReturnsInHanded {} Try.checked os 9 .any (Rows.fnOctalsSpec.pre6 enc Try.prog Try.f9 Rows.fnOctalsRow.domain false) (Rows.fnOctalsSpec.post enc Try.prog Try.f9 false true false false) := by
  refine returnsInHanded_of_change_sized (C := Try.checked) own started (by kernel_rfl) Try.func9
    (ChangeSpec.witness6 (enc := enc) (C := Try.checked) false ⟨#[], #[.slice none 0 0, .slice none 0 0], []⟩ 8 (by kernel_rfl) (by kernel_rfl) (by kernel_rfl) (by kernel_rfl)) ?_
  intro W base args ds gs before hval0 hW hcnd hsz0 _
  have hsz : (DataW.weightsEach Try.prog (Try.f9.params.toList ++ Rows.fnOctalsSpec.plain.varTypes Try.prog) (ds ++ gs)).all (· ≤ reachBytes) = true := hsz0
  have hval : ∀ (j : Nat) t v, Try.f9.params[j]? = some t → args[j]? = some v → Value.okWide Try.prog W .any base t v := hval0
  have hW' := hW
  obtain ⟨p, q, hA0, hV, rfl, hfz, hnd⟩ := hW
  have hA : DataW.TrodAll enc Try.prog W 0 (fun _ => true) true Try.f9.params.toList args.toList ds p := hA0
  rw [Try.params9] at hA hval hsz
  obtain ⟨v0, vs0, d0, ds0, p0, q0, hargs, rfl, rfl, h0, r0⟩ := trodAll_cons hA
  obtain ⟨v1, vs1, d1, ds1, p1, q1, rfl, rfl, rfl, h1, r1⟩ := trodAll_cons r0
  obtain ⟨rfl, rfl, rfl⟩ := trodAll_nil r1
  obtain rfl : args = #[v0, v1] := by cases args; simp_all
  obtain ⟨rfl, rfl⟩ := trodVars_none hV
  obtain ⟨a0, len0, cap0, rfl⟩ := okWide_slice Try.underlying33 (hval 0 33 v0 rfl rfl)
  have k0 := h0
  have lt0 : ∀ x ∈ p0, x.block < W.heap.size := by obtain ⟨m, hm⟩ := k0; exact DataW.trod_lt m _ _ _ hm
  obtain ⟨z0, rfl, hc0, hm0, hr0, hw0⟩ := ints_read Try.underlying33 Try.underlying5 (by kernel_rfl) h0
  have y0 : z0.length * 1 ≤ 140737488351232 := sized_ints hsz (j := 0) (t := 33) rfl rfl Try.underlying33 Try.underlying5 (by kernel_rfl) (by kernel_rfl) k0
  obtain ⟨a1, len1, cap1, rfl⟩ := okWide_slice Try.underlying33 (hval 1 33 v1 rfl rfl)
  have k1 := h1
  have lt1 : ∀ x ∈ p1, x.block < W.heap.size := by obtain ⟨m, hm⟩ := k1; exact DataW.trod_lt m _ _ _ hm
  obtain ⟨z1, rfl, hc1, hm1, hr1, hw1⟩ := ints_read Try.underlying33 Try.underlying5 (by kernel_rfl) h1
  have y1 : z1.length * 1 ≤ 140737488351232 := sized_ints hsz (j := 1) (t := 33) rfl rfl Try.underlying33 Try.underlying5 (by kernel_rfl) (by kernel_rfl) k1
  clear hA0 hval0 hsz0 hsz
  obtain ⟨kr, hk⟩ := Pure.FnOctals z0 z1 hm0 y0 hw0 hm1 y1 hw1
  refine (QFnOctals.laws_FnOctals.calls kr _ _ z0 _ _ z1 true W hr0 hc0 hr1 hc1 hk).mono ?_
  rintro e W' ⟨rfl, bel0⟩
  have bel : Below W.heap.size W W' := bel0
  exact ⟨_, rfl, _, _, _, [], _, [], hW', trodAll_mk1 (shut_bool Try.underlying4 _), (trodAll_cons_mk (Below.trod laidOut (by kernel_rfl) (of_decide_eq_true (by kernel_rfl)) k0 bel lt0) (trodAll_cons_mk (Below.trod laidOut (by kernel_rfl) (of_decide_eq_true (by kernel_rfl)) k1 bel lt1) trodAll_mk0)), rfl, bel.frame _, fun h => by cases h⟩
theorem over : Rows.fnOctalsRow.holds Try.pinned (OpenSpec.ofChange Rows.fnOctalsSpec) :=
  OpenClaim.holds_of_wide 9 Try.f9 rfl rfl rfl rfl rfl rfl rfl ⟨rfl, rfl, rfl, rfl, rfl⟩ rfl rfl rfl rfl rfl (by kernel_rfl) Try.func9 (by kernel_rfl)
    (of_decide_eq_true (by kernel_rfl)) (by unfold Func.isWrapper; first | (rw [if_pos (by decide +kernel)]; kernel_rfl) | (rw [if_neg (by decide +kernel)]; exact ⟨rfl, rfl⟩))
    (fun os started H enc _ => lifted os started H enc)
theorem proved : Rows.FnOctalsSaid := over
#print axioms proved
end Go.Proofs.Yteinllalhiflcaa.fnOctals
namespace Go.Proofs.Yteinllalhiflcaa
/-- The row, under a short name, for the claim. -/
theorem fnOctals_holds : Rows.FnOctalsSaid := fnOctals.proved
end Go.Proofs.Yteinllalhiflcaa
