/- The row of the law FnExactReadRow: whatever the input, it returns true, and its arguments read as they did. It rests on the printed contract of the law's function and on the pure statement in YtojjakjpdkpmiaaDoorPureFnExactReadRow. No condition. -/
import Derived.Test.YtojjakjpdkpmiaaDoorRows
import Derived.Test.YtojjakjpdkpmiaaDoorQFnExactReadRowx1
import Derived.Test.YtojjakjpdkpmiaaDoorPureFnExactReadRow
import Derived.Test.YtojjakjpdkpmiaaDoorWSized
import Derived.Test.YtojjakjpdkpmiaaDoorRows2
import Derived.WalkKit
import Derived.ProofKit
import Derived.OpenShut
import Derived.ShutString
import Derived.ChangeOld
import Derived.Below
import Derived.SizedLaws
import Derived.Lib.SmallJoins
import Derived.LaidMore
import Derived.Lib.LaidTab
import Derived.Stop.LaidErr
import Derived.MakeChecks
import Derived.SevenTiedAt
import Derived.LaidHandle
import Derived.LaidLaws
import Derived.Lay
import Derived.Handed
import Derived.Test.YtojjakjpdkpmiaaDoorCards
import Derived.Test.YtojjakjpdkpmiaaDoorTie
import Derived.Test.YtojjakjpdkpmiaaDoorFactsFnExactReadRow
namespace Go.Proofs.YtojjakjpdkpmiaaDoor.fnExactReadRow
open Go.ChangeShapes Go.WideShapes Go.ChangeAt Go.RowKit Go.Joins
open Go.ChangeMaps (open_string shut_string)
open Go.Proofs.YtojjakjpdkpmiaaDoorW.PrintWords Go.Proofs.YtojjakjpdkpmiaaDoorW.PrintLast Go.Proofs.YtojjakjpdkpmiaaDoor.Lib
set_option linter.unusedVariables false
set_option linter.unusedSimpArgs false
theorem own : ownKnob Tryd.prog.godebug = none := by kernel_rfl
theorem laidOut : laidOutB Tryd.prog = true := by kernel_rfl
abbrev LAID : List (String × DataW Unit) := [("unicode/utf8.acceptRanges", Rows.laid_unicode_utf8_acceptRanges), ("unicode/utf8.first", Rows.laid_unicode_utf8_first)]
set_option maxRecDepth 100000 in
theorem lifted (os : Os) (started : os.Started) (H : Type) (enc : TypeId × Value → H) :
    ReturnsInHanded {} Tryd.checked os 13 .any (fun w args => (Rows.fnExactReadRowSpec.pre enc Tryd.prog Tryd.f13 [] false w args ∧ laidMetH Tryd.prog LAID w) ∧ sizedMet enc Tryd.prog Tryd.f13 (OpenSpec.ofChange Rows.fnExactReadRowSpec) false w args) (Rows.fnExactReadRowSpec.post enc Tryd.prog Tryd.f13 false true false false) := by
  refine returnsInHanded_of_change_and (C := Tryd.checked) (X := fun w _ => laidMetH Tryd.prog LAID w) (fun _ _ _ hh h => h.of_heap hh) own started (by kernel_rfl) Tryd.func13
    (ChangeSpec.witness_shaped (enc := enc) (C := Tryd.checked) (os := os) (X := fun w _ => laidMetH Tryd.prog LAID w) false (World.laidAll Tryd.prog os LAID) #[.string ByteArray.empty] 8 (World.laidAll_os _ _ _) (World.shaped_of_ZipB (by kernel_rfl) (by kernel_rfl)) (by kernel_rfl) (by kernel_rfl) (by kernel_rfl) (by rw [MakeChecks.laidMetH_plain _ _ _ (by kernel_rfl)]; exact laidMet_laidAll _ (by kernel_rfl) (by kernel_rfl))) ?_
  intro W base args ds gs before hval0 hW hcnd hsz0 hL _
  have hsz : (DataW.weightsEach Tryd.prog (Tryd.f13.params.toList ++ Rows.fnExactReadRowSpec.plain.varTypes Tryd.prog) (ds ++ gs)).all (· ≤ reachBytes) = true := hsz0
  have hval : ∀ (j : Nat) t v, Tryd.f13.params[j]? = some t → args[j]? = some v → Value.okWide Tryd.prog W .any base t v := hval0
  have hW' := hW
  obtain ⟨p, q, hA0, hV, rfl, hfz, hnd⟩ := hW
  have hA : DataW.TrodAll enc Tryd.prog W 0 (fun _ => true) true Tryd.f13.params.toList args.toList ds p := hA0
  rw [Tryd.params13] at hA hval hsz
  obtain ⟨v0, vs0, d0, ds0, p0, q0, hargs, rfl, rfl, h0, r0⟩ := trodAll_cons hA
  obtain ⟨rfl, rfl, rfl⟩ := trodAll_nil r0
  obtain rfl : args = #[v0] := by cases args; simp_all
  obtain ⟨rfl, rfl⟩ := trodVars_none hV
  obtain ⟨a0, rfl, rfl, rfl, y0⟩ := open_string Tryd.underlying9 (hval 0 9 v0 rfl rfl) h0
  clear hA0 hval0 hsz0 hsz
  obtain ⟨kr, hk⟩ := Pure.FnExactReadRow a0 y0
  refine (QFnExactReadRow.laws_FnExactReadRow.calls kr a0 true W  hk).mono ?_
  rintro e W' ⟨rfl, bel0⟩
  have bel : Below W.heap.size W W' := bel0
  exact ⟨_, rfl, _, _, _, [], _, [], hW', trodAll_mk1 (shut_bool Tryd.underlying4 _), (trodAll_cons_mk (shut_string Tryd.underlying9 y0) trodAll_mk0), rfl, bel.frame _, fun h => by cases h⟩
theorem over : Rows.fnExactReadRowRow.holds Tryd.pinned (OpenSpec.ofChange Rows.fnExactReadRowSpec) :=
  OpenClaim.holds_of_wide 13 Tryd.f13 rfl rfl rfl rfl rfl rfl rfl ⟨rfl, rfl, rfl, rfl, rfl⟩ rfl rfl rfl rfl rfl (by kernel_rfl) Tryd.func13 closed
    (of_decide_eq_true (by kernel_rfl)) (by unfold Func.isWrapper; first | (rw [if_pos (by decide +kernel)]; kernel_rfl) | (rw [if_neg (by decide +kernel)]; exact ⟨rfl, rfl⟩))
    (fun os started H enc _ => lifted os started H enc)
theorem proved : Rows.FnExactReadRowSaid := over
theorem carded : Rows.FnExactReadRowCardSaid :=
  Claim7.holds_tied_plain_at .later [] [.data, .pinned] true (true, "295abb6f7debd09b8bcaa65f44d2e1506e35102de45e6232838c817029c4256f") true over (fun _ h => by cases h) (by kernel_rfl) (fun _ h => by cases h) fnExactReadRow_row_tie rfl ⟨rfl, rfl⟩ (by kernel_rfl) rfl
    (fun f fn hf hfn => by
      obtain rfl : f = 13 := Option.some.inj ((show Tryd.prog.funcNamed "loop.example/g01307/laws.FnExactReadRow" = some 13 by kernel_rfl).symm.trans hf) |>.symm
      obtain rfl : fn = Tryd.f13 := (Option.some.inj (Tryd.func13.symm.trans hfn)).symm
      exact ⟨by kernel_rfl, fun j t ht => by
        rw [Tryd.params13] at ht
        have hm : t ∈ [9] := by simpa using Array.mem_of_getElem? ht
        have hall : ([9].all fun u => !Tryd.prog.wantsStandIn u) = true := by kernel_rfl
        exact (show Tryd.prog.wantsStandIn t = false by simpa using List.all_eq_true.1 hall t hm)⟩)
    (by kernel_rfl)
#print axioms carded
#print axioms proved
end Go.Proofs.YtojjakjpdkpmiaaDoor.fnExactReadRow
namespace Go.Proofs.YtojjakjpdkpmiaaDoor
/-- The row, under a short name, for the claim. -/
theorem fnExactReadRow_card : Rows.FnExactReadRowCardSaid := fnExactReadRow.carded
end Go.Proofs.YtojjakjpdkpmiaaDoor
