/- The row of the law FnExactCountWinningTurns: whatever the input, it returns true, and its arguments read as they did. It rests on the printed contract of the law's function and on the pure statement in YtnicjjnghclgpaaDoorPureFnExactCountWinningTurns. No condition. -/
import Derived.Test.YtnicjjnghclgpaaDoorRows
import Derived.Test.YtnicjjnghclgpaaDoorQFnExactCountWinningTurnsx11
import Derived.Test.YtnicjjnghclgpaaDoorPureFnExactCountWinningTurns
import Derived.Test.YtnicjjnghclgpaaDoorWSized
import Derived.Test.YtnicjjnghclgpaaDoorRows2
import Derived.WalkKit
import Derived.ProofKit
import Derived.OpenShut
import Derived.ShutString
import Derived.ChangeOld
import Derived.Below
import Derived.SizedLaws
import Derived.Lib.SmallJoins
import Derived.LaidMore
import Derived.Lib.LaidTab
import Derived.Stop.LaidErr
import Derived.MakeChecks
import Derived.SevenTiedAt
import Derived.LaidHandle
import Derived.LaidLaws
import Derived.Lay
import Derived.Handed
import Derived.Test.YtnicjjnghclgpaaDoorCards
import Derived.Test.YtnicjjnghclgpaaDoorTie
import Derived.Test.YtnicjjnghclgpaaDoorFactsFnExactCountWinningTurns
namespace Go.Proofs.YtnicjjnghclgpaaDoor.fnExactCountWinningTurns
open Go.ChangeShapes Go.WideShapes Go.ChangeAt Go.RowKit Go.Joins
open Go.ChangeMaps (open_string shut_string)
open Go.Proofs.YtnicjjnghclgpaaDoorW.PrintWords Go.Proofs.YtnicjjnghclgpaaDoorW.PrintLast Go.Proofs.YtnicjjnghclgpaaDoor.Lib
set_option linter.unusedVariables false
set_option linter.unusedSimpArgs false
theorem own : ownKnob Tryd.prog.godebug = none := by kernel_rfl
theorem laidOut : laidOutB Tryd.prog = true := by kernel_rfl
abbrev LAID : List (String × DataW Unit) := [("math/bits.deBruijn32tab", Rows.laid_math_bits_deBruijn32tab)]
/-- The laid table's cells, out of the row's condition. -/
theorem of_Laid32 {W : World} (h : laidMetH Tryd.prog LAID W) : QFnExactCountWinningTurns.Laid32 W := by
  rw [MakeChecks.laidMetH_plain _ _ _ (by kernel_rfl)] at h
  have e : (Rows.laid_math_bits_deBruijn32tab : DataW Unit) = Lib.tabData .u8 QFnExactCountWinningTurns.tz32tab := by kernel_rfl
  have h2 : laidMet Tryd.prog (LAID.drop 0) W := h
  have h3 : laidMet Tryd.prog (("math/bits.deBruijn32tab", Lib.tabData .u8 QFnExactCountWinningTurns.tz32tab) :: LAID.drop 1) W := by rw [← e]; exact h2
  have ht : Lib.TabIs Tryd.prog W "math/bits.deBruijn32tab" .u8 QFnExactCountWinningTurns.tz32tab := Lib.tabIs_of_head (g := 0) (by kernel_rfl) (by kernel_rfl) Tryd.underlying62 Tryd.underlying5 (by kernel_rfl) (by kernel_rfl) h3
  exact ⟨fun i hi => ht.cell (by kernel_rfl) i (by simpa [QFnExactCountWinningTurns.tz32tab] using hi)⟩
set_option maxRecDepth 100000 in
theorem lifted (os : Os) (started : os.Started) (H : Type) (enc : TypeId × Value → H) :
    ReturnsInHanded {} Tryd.checked os 6 .any (fun w args => (Rows.fnExactCountWinningTurnsSpec.pre enc Tryd.prog Tryd.f6 [] false w args ∧ laidMetH Tryd.prog LAID w) ∧ sizedMet enc Tryd.prog Tryd.f6 (OpenSpec.ofChange Rows.fnExactCountWinningTurnsSpec) false w args) (Rows.fnExactCountWinningTurnsSpec.post enc Tryd.prog Tryd.f6 false true false false) := by
  refine returnsInHanded_of_change_and (C := Tryd.checked) (X := fun w _ => laidMetH Tryd.prog LAID w) (fun _ _ _ hh h => h.of_heap hh) own started (by kernel_rfl) Tryd.func6
    (ChangeSpec.witness_shaped (enc := enc) (C := Tryd.checked) (os := os) (X := fun w _ => laidMetH Tryd.prog LAID w) false (World.laidAll Tryd.prog os LAID) #[.int .i64 0, .int .u32 0] 8 (World.laidAll_os _ _ _) (World.shaped_of_ZipB (by kernel_rfl) (by kernel_rfl)) (by kernel_rfl) (by kernel_rfl) (by kernel_rfl) (by rw [MakeChecks.laidMetH_plain _ _ _ (by kernel_rfl)]; exact laidMet_laidAll _ (by kernel_rfl) (by kernel_rfl))) ?_
  intro W base args ds gs before hval0 hW hcnd hsz0 hL _
  have hsz : (DataW.weightsEach Tryd.prog (Tryd.f6.params.toList ++ Rows.fnExactCountWinningTurnsSpec.plain.varTypes Tryd.prog) (ds ++ gs)).all (· ≤ reachBytes) = true := hsz0
  have hval : ∀ (j : Nat) t v, Tryd.f6.params[j]? = some t → args[j]? = some v → Value.okWide Tryd.prog W .any base t v := hval0
  have hW' := hW
  obtain ⟨p, q, hA0, hV, rfl, hfz, hnd⟩ := hW
  have hA : DataW.TrodAll enc Tryd.prog W 0 (fun _ => true) true Tryd.f6.params.toList args.toList ds p := hA0
  rw [Tryd.params6] at hA hval hsz
  obtain ⟨v0, vs0, d0, ds0, p0, q0, hargs, rfl, rfl, h0, r0⟩ := trodAll_cons hA
  obtain ⟨v1, vs1, d1, ds1, p1, q1, rfl, rfl, rfl, h1, r1⟩ := trodAll_cons r0
  obtain ⟨rfl, rfl, rfl⟩ := trodAll_nil r1
  obtain rfl : args = #[v0, v1] := by cases args; simp_all
  obtain ⟨rfl, rfl⟩ := trodVars_none hV
  obtain ⟨a0, rfl, rfl, rfl, w0⟩ := open_int Tryd.underlying2 (hval 0 2 v0 rfl rfl) h0
  obtain ⟨a1, rfl, rfl, rfl, w1⟩ := open_int Tryd.underlying33 (hval 1 33 v1 rfl rfl) h1
  clear hA0 hval0 hsz0 hsz
  obtain ⟨kr, hk⟩ := Pure.FnExactCountWinningTurns a0 a1 w0 w1
  refine (QFnExactCountWinningTurns.laws_FnExactCountWinningTurns.calls kr a0 a1 true W (of_Laid32 hL) hk).mono ?_
  rintro e W' ⟨rfl, bel0⟩
  have bel : Below W.heap.size W W' := bel0
  exact ⟨_, rfl, _, _, _, [], _, [], hW', trodAll_mk1 (shut_bool Tryd.underlying4 _), (trodAll_cons_mk (shut_int Tryd.underlying2 w0) (trodAll_cons_mk (shut_int Tryd.underlying33 w1) trodAll_mk0)), rfl, bel.frame _, fun h => by cases h⟩
theorem over : Rows.fnExactCountWinningTurnsRow.holds Tryd.pinned (OpenSpec.ofChange Rows.fnExactCountWinningTurnsSpec) :=
  OpenClaim.holds_of_wide 6 Tryd.f6 rfl rfl rfl rfl rfl rfl rfl ⟨rfl, rfl, rfl, rfl, rfl⟩ rfl rfl rfl rfl rfl (by kernel_rfl) Tryd.func6 closed
    (of_decide_eq_true (by kernel_rfl)) (by unfold Func.isWrapper; first | (rw [if_pos (by decide +kernel)]; kernel_rfl) | (rw [if_neg (by decide +kernel)]; exact ⟨rfl, rfl⟩))
    (fun os started H enc _ => lifted os started H enc)
theorem proved : Rows.FnExactCountWinningTurnsSaid := over
theorem carded : Rows.FnExactCountWinningTurnsCardSaid :=
  Claim7.holds_tied_plain_at .later [] [.data] true (true, "7c4d251fd3f8e5b53feaa75cb82ea0fda8ba13cf7223d2a6526aeae0e4f9d915") false over (fun _ h => by cases h) (by kernel_rfl) (fun _ h => by cases h) fnExactCountWinningTurns_row_tie rfl ⟨rfl, rfl⟩ (by kernel_rfl) rfl
    (fun f fn hf hfn => by
      obtain rfl : f = 6 := Option.some.inj ((show Tryd.prog.funcNamed "loop.example/g01307/laws.FnExactCountWinningTurns" = some 6 by kernel_rfl).symm.trans hf) |>.symm
      obtain rfl : fn = Tryd.f6 := (Option.some.inj (Tryd.func6.symm.trans hfn)).symm
      exact ⟨by kernel_rfl, fun j t ht => by
        rw [Tryd.params6] at ht
        have hm : t ∈ [2, 33] := by simpa using Array.mem_of_getElem? ht
        have hall : ([2, 33].all fun u => !Tryd.prog.wantsStandIn u) = true := by kernel_rfl
        exact (show Tryd.prog.wantsStandIn t = false by simpa using List.all_eq_true.1 hall t hm)⟩)
    (by kernel_rfl)
#print axioms carded
#print axioms proved
end Go.Proofs.YtnicjjnghclgpaaDoor.fnExactCountWinningTurns
namespace Go.Proofs.YtnicjjnghclgpaaDoor
/-- The row, under a short name, for the claim. -/
theorem fnExactCountWinningTurns_card : Rows.FnExactCountWinningTurnsCardSaid := fnExactCountWinningTurns.carded
end Go.Proofs.YtnicjjnghclgpaaDoor
