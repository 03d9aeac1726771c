/- The row of the law FnExactTurnBoard: whatever the input, it returns true, and its arguments read as they did. It rests on the printed contract of the law's function and on the pure statement in YteinllalhiflcaaDoorPureFnExactTurnBoard. No condition. -/
import Derived.Test.YteinllalhiflcaaDoorRows
import Derived.Test.YteinllalhiflcaaDoorQFnExactTurnBoardx5
import Derived.Test.YteinllalhiflcaaDoorPureFnExactTurnBoard
import Derived.Test.YteinllalhiflcaaDoorWSized
import Derived.Test.YteinllalhiflcaaDoorRows2
import Derived.WalkKit
import Derived.ProofKit
import Derived.OpenShut
import Derived.ShutString
import Derived.ChangeOld
import Derived.Below
import Derived.SizedLaws
import Derived.Lib.SmallJoins
import Derived.LaidMore
import Derived.Lib.LaidTab
import Derived.MakeChecks
import Derived.SevenTiedAt
import Derived.LaidHandle
import Derived.LaidLaws
import Derived.Handed
import Derived.Test.YteinllalhiflcaaDoorCards
import Derived.Test.YteinllalhiflcaaDoorTie
namespace Go.Proofs.YteinllalhiflcaaDoor.fnExactTurnBoard
open Go.ChangeShapes Go.WideShapes Go.ChangeAt Go.RowKit Go.Joins
open Go.ChangeMaps (open_string shut_string)
open Go.Proofs.YteinllalhiflcaaDoorW.PrintWords Go.Proofs.YteinllalhiflcaaDoorW.PrintLast Go.Proofs.YteinllalhiflcaaDoor.Lib
set_option linter.unusedVariables false
set_option linter.unusedSimpArgs false
theorem own : ownKnob Tryd.prog.godebug = none := by kernel_rfl
theorem laidOut : laidOutB Tryd.prog = true := by kernel_rfl
abbrev LAID : List (String × DataW Unit) := [("math/bits.deBruijn32tab", Rows.laid_math_bits_deBruijn32tab)]
/-- The laid table's cells, out of the row's condition. -/
theorem of_laid {W : World} (h : laidMetH Tryd.prog LAID W) : QFnExactTurnBoard.Laid32 W := by
  rw [MakeChecks.laidMetH_plain _ _ _ (by kernel_rfl)] at h
  have ht : Lib.TabIs Tryd.prog W "math/bits.deBruijn32tab" .u8 QFnExactTurnBoard.tz32tab := Lib.tabIs_of_head (g := 0) (by kernel_rfl) (by kernel_rfl) Tryd.underlying47 Tryd.underlying5 (by kernel_rfl) (by kernel_rfl) (show laidMet Tryd.prog (("math/bits.deBruijn32tab", Lib.tabData .u8 QFnExactTurnBoard.tz32tab) :: []) W from h)
  exact ⟨fun i hi => ht.cell (by kernel_rfl) i (by simpa [QFnExactTurnBoard.tz32tab] using hi)⟩
theorem door_met (os : Os) (args : Array Value) : laidMetH Tryd.prog LAID ((World.doorLaid Tryd.prog 400 os).forCall (fun _ _ => 0) ⟨#[], args, []⟩).memory :=
  laidMetH_of_parts3 (fuel := 8) (laidMet_of_run' 8 (by kernel_rfl) (by kernel_rfl)) (by kernel_rfl) (by kernel_rfl)
set_option maxRecDepth 100000 in
theorem lifted (os : Os) (started : os.Started) (H : Type) (enc : TypeId × Value → H) :
    ReturnsInHanded {} Tryd.checked os 5 .any (fun w args => (Rows.fnExactTurnBoardSpec.pre enc Tryd.prog Tryd.f5 [] false w args ∧ laidMetH Tryd.prog LAID w) ∧ sizedMet enc Tryd.prog Tryd.f5 (OpenSpec.ofChange Rows.fnExactTurnBoardSpec) false w args) (Rows.fnExactTurnBoardSpec.post enc Tryd.prog Tryd.f5 false true false false) := by
  refine returnsInHanded_of_change_and (C := Tryd.checked) (X := fun w _ => laidMetH Tryd.prog LAID w) (fun _ _ _ hh h => h.of_heap hh) own started (by kernel_rfl) Tryd.func5
    (ChangeSpec.witness_shaped (enc := enc) (C := Tryd.checked) (os := os) (X := fun w _ => laidMetH Tryd.prog LAID w) false (World.doorLaid Tryd.prog 400 os) #[.int .i64 0, .int .i64 0, .int .u64 0, .agg #[.int .u32 0, .int .u32 0]] 8 rfl (World.shaped_of_RefB (by kernel_rfl) (by kernel_rfl)) (by kernel_rfl) (by kernel_rfl) (by kernel_rfl) (door_met os _)) ?_
  intro W base args ds gs before hval0 hW hcnd hsz0 hL _
  have hsz : (DataW.weightsEach Tryd.prog (Tryd.f5.params.toList ++ Rows.fnExactTurnBoardSpec.plain.varTypes Tryd.prog) (ds ++ gs)).all (· ≤ reachBytes) = true := hsz0
  have hval : ∀ (j : Nat) t v, Tryd.f5.params[j]? = some t → args[j]? = some v → Value.okWide Tryd.prog W .any base t v := hval0
  have hW' := hW
  obtain ⟨p, q, hA0, hV, rfl, hfz, hnd⟩ := hW
  have hA : DataW.TrodAll enc Tryd.prog W 0 (fun _ => true) true Tryd.f5.params.toList args.toList ds p := hA0
  rw [Tryd.params5] at hA hval hsz
  obtain ⟨v0, vs0, d0, ds0, p0, q0, hargs, rfl, rfl, h0, r0⟩ := trodAll_cons hA
  obtain ⟨v1, vs1, d1, ds1, p1, q1, rfl, rfl, rfl, h1, r1⟩ := trodAll_cons r0
  obtain ⟨v2, vs2, d2, ds2, p2, q2, rfl, rfl, rfl, h2, r2⟩ := trodAll_cons r1
  obtain ⟨v3, vs3, d3, ds3, p3, q3, rfl, rfl, rfl, h3, r3⟩ := trodAll_cons r2
  obtain ⟨rfl, rfl, rfl⟩ := trodAll_nil r3
  obtain rfl : args = #[v0, v1, v2, v3] := by cases args; simp_all
  obtain ⟨rfl, rfl⟩ := trodVars_none hV
  obtain ⟨a0, rfl, rfl, rfl, w0⟩ := open_int Tryd.underlying2 (hval 0 2 v0 rfl rfl) h0
  obtain ⟨a1, rfl, rfl, rfl, w1⟩ := open_int Tryd.underlying2 (hval 1 2 v1 rfl rfl) h1
  obtain ⟨a2, rfl, rfl, rfl, w2⟩ := open_int Tryd.underlying29 (hval 2 29 v2 rfl rfl) h2
  have k3 := h3
  have lt3 : ∀ x ∈ p3, x.block < W.heap.size := by obtain ⟨m, hm⟩ := k3; exact DataW.trod_lt m _ _ _ hm
  obtain ⟨c3_0, c3_1, y3_0, y3_1, mm3, rfl, rfl, rfl, hy3_0, hy3_1⟩ := open_agg2 Tryd.underlying31 (by kernel_rfl) (by kernel_rfl) (hval 3 31 v3 rfl rfl) h3
  obtain ⟨a3_0, e3_0, rfl, w3_0⟩ := DataW.trod_int Tryd.underlying22 hy3_0
  simp at e3_0; subst e3_0
  obtain ⟨a3_1, e3_1, rfl, w3_1⟩ := DataW.trod_int Tryd.underlying22 hy3_1
  simp at e3_1; subst e3_1
  clear hA0 hval0 hsz0 hsz
  obtain ⟨kr, hk⟩ := Pure.FnExactTurnBoard a0 a1 a2 a3_0 a3_1 w0 w1 w2 w3_0 w3_1
  refine (QFnExactTurnBoard.laws_FnExactTurnBoard.calls kr a0 a1 a2 a3_0 a3_1 true W (of_laid hL) hk).mono ?_
  rintro e W' ⟨rfl, bel0⟩
  have bel : Below W.heap.size W W' := bel0
  exact ⟨_, rfl, _, _, _, [], _, [], hW', trodAll_mk1 (shut_bool Tryd.underlying4 _), (trodAll_cons_mk (shut_int Tryd.underlying2 w0) (trodAll_cons_mk (shut_int Tryd.underlying2 w1) (trodAll_cons_mk (shut_int Tryd.underlying29 w2) (trodAll_cons_mk (Below.trod laidOut (by kernel_rfl) (of_decide_eq_true (by kernel_rfl)) k3 bel lt3) trodAll_mk0)))), rfl, bel.frame _, fun h => by cases h⟩
theorem over : Rows.fnExactTurnBoardRow.holds Tryd.pinned (OpenSpec.ofChange Rows.fnExactTurnBoardSpec) :=
  OpenClaim.holds_of_wide 5 Tryd.f5 rfl rfl rfl rfl rfl rfl rfl ⟨rfl, rfl, rfl, rfl, rfl⟩ rfl rfl rfl rfl rfl (by kernel_rfl) Tryd.func5 (by kernel_rfl)
    (of_decide_eq_true (by kernel_rfl)) (by unfold Func.isWrapper; first | (rw [if_pos (by decide +kernel)]; kernel_rfl) | (rw [if_neg (by decide +kernel)]; exact ⟨rfl, rfl⟩))
    (fun os started H enc _ => lifted os started H enc)
theorem proved : Rows.FnExactTurnBoardSaid := over
theorem carded : Rows.FnExactTurnBoardCardSaid :=
  Claim7.holds_tied_plain_at .later [] [.data] true (true, "75261553f8ff9d6777e348efe0f56d19bc29474060088baf72cf8e19fc3d9f7d") false over (fun _ h => by cases h) (by kernel_rfl) (fun _ h => by cases h) fnExactTurnBoard_row_tie rfl ⟨rfl, rfl⟩ (by kernel_rfl) rfl
    (fun f fn hf hfn => by
      obtain rfl : f = 5 := Option.some.inj ((show Tryd.prog.funcNamed "loop.example/g01307/laws.FnExactTurnBoard" = some 5 by kernel_rfl).symm.trans hf) |>.symm
      obtain rfl : fn = Tryd.f5 := (Option.some.inj (Tryd.func5.symm.trans hfn)).symm
      exact ⟨by kernel_rfl, fun j t ht => by
        rw [Tryd.params5] at ht
        have hm : t ∈ [2, 2, 29, 31] := by simpa using Array.mem_of_getElem? ht
        have hall : ([2, 2, 29, 31].all fun u => !Tryd.prog.wantsStandIn u) = true := by kernel_rfl
        exact (show Tryd.prog.wantsStandIn t = false by simpa using List.all_eq_true.1 hall t hm)⟩)
    (by kernel_rfl)
#print axioms carded
#print axioms proved
end Go.Proofs.YteinllalhiflcaaDoor.fnExactTurnBoard
namespace Go.Proofs.YteinllalhiflcaaDoor
/-- The row, under a short name, for the claim. -/
theorem fnExactTurnBoard_card : Rows.FnExactTurnBoardCardSaid := fnExactTurnBoard.carded
end Go.Proofs.YteinllalhiflcaaDoor
