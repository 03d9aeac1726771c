/- The row of the law FnExactReadMatrix: whatever the input, it returns true, and its arguments read as they did. It rests on the printed contract of the law's function and on the pure statement in YtdgglnjegkmamaaDoorPureFnExactReadMatrix. No condition. -/
import Derived.Test.YtdgglnjegkmamaaDoorRows
import Derived.Test.YtdgglnjegkmamaaDoorWalkFnExactReadMatrix
import Derived.Test.YtdgglnjegkmamaaDoorPureFnExactReadMatrix
import Derived.Test.YtdgglnjegkmamaaDoorWSized
import Derived.Test.YtdgglnjegkmamaaDoorRows2
import Derived.WalkKit
import Derived.ProofKit
import Derived.OpenShut
import Derived.ShutString
import Derived.ChangeOld
import Derived.Below
import Derived.SizedLaws
import Derived.Lib.SmallJoins
import Derived.LaidMore
import Derived.Lib.LaidTab
import Derived.Stop.LaidErr
import Derived.MakeChecks
import Derived.SevenTiedAt
import Derived.LaidHandle
import Derived.LaidLaws
import Derived.Lay
import Derived.Handed
import Derived.Deep.DeepHandedRow
import Derived.Test.YtdgglnjegkmamaaDoorCards
import Derived.Test.YtdgglnjegkmamaaDoorTie
import Derived.Test.YtdgglnjegkmamaaDoorFactsFnExactReadMatrix
import Derived.Test.YtdgglnjegkmamaaDoorShMax
namespace Go.Proofs.YtdgglnjegkmamaaDoor.fnExactReadMatrix
open Go.ChangeShapes Go.WideShapes Go.ChangeAt Go.RowKit Go.Joins
open Go.ChangeMaps (open_string shut_string)
open Go.Proofs.YtdgglnjegkmamaaDoorW.PrintWords Go.Proofs.YtdgglnjegkmamaaDoorW.PrintLast Go.Proofs.YtdgglnjegkmamaaDoor.Lib
set_option linter.unusedVariables false
set_option linter.unusedSimpArgs false
theorem own : ownKnob Tryd.prog.godebug = none := by kernel_rfl
theorem laidOut : laidOutB Tryd.prog = true := by kernel_rfl
abbrev LAID : List (String × DataW Unit) := [("math/bits.deBruijn32tab", Rows.laid_math_bits_deBruijn32tab), ("math/bits.deBruijn64tab", Rows.laid_math_bits_deBruijn64tab), ("internal/strconv.uint64pow10", Rows.laid_internal_strconv_uint64pow10), ("unicode/utf8.acceptRanges", Rows.laid_unicode_utf8_acceptRanges), ("strconv.ErrRange", Rows.laid_strconv_ErrRange), ("strconv.ErrSyntax", Rows.laid_strconv_ErrSyntax), ("unicode/utf8.first", Rows.laid_unicode_utf8_first)]
/-- The laid table's cells, out of the row's condition. -/
theorem of_LaidPow {W : World} (h : laidMetH Tryd.prog LAID W) : QFnExactReadMatrix.LaidPow W := by
  rw [MakeChecks.laidMetH_plain _ _ _ (by kernel_rfl)] at h
  have e : (Rows.laid_internal_strconv_uint64pow10 : DataW Unit) = Lib.tabData .u64 Lib.pow10Tab := by kernel_rfl
  have h2 : laidMet Tryd.prog (LAID.drop 2) W := laidMet.tail (laidMet.tail (h))
  have h3 : laidMet Tryd.prog (("internal/strconv.uint64pow10", Lib.tabData .u64 Lib.pow10Tab) :: LAID.drop 3) W := by rw [← e]; exact h2
  have ht : Lib.TabIs Tryd.prog W "internal/strconv.uint64pow10" .u64 Lib.pow10Tab := Lib.tabIs_of_head (g := 4) (by kernel_rfl) (by kernel_rfl) Tryd.underlying160 Tryd.underlying128 (by kernel_rfl) (by kernel_rfl) h3
  exact ⟨ht⟩
theorem of_LaidMax {W : World} (h : W.ShapedOpen Tryd.prog) : QFnExactReadMatrix.LaidMax W := ⟨Tryd.laysM146.s1_3 W h⟩
theorem errStar : ("*" ++ "errors.errorString" : String) = "*errors.errorString" := by decide
theorem errRow (u : TypeId) (h : Tryd.prog.typeName? 3 u = some "*errors.errorString") : u = 168 :=
  typeName_ptr_named (nm := "errors.errorString") (by rw [errStar]; kernel_rfl) (by kernel_rfl) (by decide) u (by rw [errStar]; exact h)
theorem errCells : Tryd.prog.cellsOf 170 = 1 := by kernel_rfl
theorem strCells : Tryd.prog.cellsOf 9 = 1 := by kernel_rfl
theorem of_errSyntax {W : World} (h : laidMetH Tryd.prog LAID W) : ∃ ev, W.cell? ⟨5, 0, none⟩ = some ev ∧ (ev = .nilIface ∨ ∃ te pe, ev = .iface te pe) := by
  rw [MakeChecks.laidMetH_plain _ _ _ (by kernel_rfl)] at h
  have h2 : laidMet Tryd.prog (LAID.drop 5) W := laidMet.tail (laidMet.tail (laidMet.tail (laidMet.tail (laidMet.tail (h)))))
  obtain ⟨a, _, hv, _, _, _⟩ := laid_sentinel (g := 5) h2 (by kernel_rfl) (by kernel_rfl) Tryd.underlying77 errRow Tryd.underlying168 Tryd.underlying170 rfl rfl Tryd.underlying9 errCells strCells
  have := World.var?_cell (g := 5) (by kernel_rfl) hv 0
  exact ⟨_, this, .inr ⟨_, _, rfl⟩⟩
theorem of_errRange {W : World} (h : laidMetH Tryd.prog LAID W) : ∃ ev, W.cell? ⟨6, 0, none⟩ = some ev ∧ (ev = .nilIface ∨ ∃ te pe, ev = .iface te pe) := by
  rw [MakeChecks.laidMetH_plain _ _ _ (by kernel_rfl)] at h
  have h2 : laidMet Tryd.prog (LAID.drop 4) W := laidMet.tail (laidMet.tail (laidMet.tail (laidMet.tail (h))))
  obtain ⟨a, _, hv, _, _, _⟩ := laid_sentinel (g := 6) h2 (by kernel_rfl) (by kernel_rfl) Tryd.underlying77 errRow Tryd.underlying168 Tryd.underlying170 rfl rfl Tryd.underlying9 errCells strCells
  have := World.var?_cell (g := 6) (by kernel_rfl) hv 0
  exact ⟨_, this, .inr ⟨_, _, rfl⟩⟩
theorem of_LaidErr {W : World} (h : laidMetH Tryd.prog LAID W) : QFnExactReadMatrix.LaidErr W := ⟨⟨of_errSyntax h, of_errRange h⟩⟩
set_option maxRecDepth 100000 in
theorem lifted (os : Os) (started : os.Started) (H : Type) (enc : TypeId × Value → H) :
    ReturnsInHanded {} Tryd.checked os 4 .any (fun w args => (Rows.fnExactReadMatrixSpec.pre enc Tryd.prog Tryd.f4 [] false w args ∧ laidMetH Tryd.prog LAID w) ∧ sizedMet enc Tryd.prog Tryd.f4 (OpenSpec.ofChange Rows.fnExactReadMatrixSpec) false w args) (Rows.fnExactReadMatrixSpec.post enc Tryd.prog Tryd.f4 false true false false) := by
  refine returnsInHanded_of_row (s := OpenSpec.ofChange Rows.fnExactReadMatrixSpec) (F := fun _ _ _ => 0) (laid := LAID) (conds := []) (C := Tryd.checked) own started (by kernel_rfl) Tryd.func4
    (ChangeSpec.witness_shaped (enc := enc) (C := Tryd.checked) (os := os) (X := fun w _ => laidMetH Tryd.prog LAID w) false (World.laidAll Tryd.prog os LAID) #[.string ByteArray.empty] 8 (World.laidAll_os _ _ _) (World.shaped_of_ZipB (by kernel_rfl) (by kernel_rfl)) (by kernel_rfl) (by kernel_rfl) (by kernel_rfl) (by rw [MakeChecks.laidMetH_plain _ _ _ (by kernel_rfl)]; exact laidMet_laidAll _ (by kernel_rfl) (by kernel_rfl))) ?_
  intro W base args ds gs before hval0 hW hcnd _ hsz0 hL hsh _
  have hsz : (DataW.weightsEach Tryd.prog (Tryd.f4.params.toList ++ Rows.fnExactReadMatrixSpec.plain.varTypes Tryd.prog) (ds ++ gs)).all (· ≤ reachBytes) = true := hsz0
  have hval : ∀ (j : Nat) t v, Tryd.f4.params[j]? = some t → args[j]? = some v → Value.okWide Tryd.prog W .any base t v := hval0
  have hW' := hW
  obtain ⟨p, q, hA0, hV, rfl, hfz, hnd⟩ := hW
  have hA : DataW.TrodAll enc Tryd.prog W 0 (fun _ => true) true Tryd.f4.params.toList args.toList ds p := hA0
  rw [Tryd.params4] at hA hval hsz
  obtain ⟨v0, vs0, d0, ds0, p0, q0, hargs, rfl, rfl, h0, r0⟩ := trodAll_cons hA
  obtain ⟨rfl, rfl, rfl⟩ := trodAll_nil r0
  obtain rfl : args = #[v0] := by cases args; simp_all
  obtain ⟨rfl, rfl⟩ := trodVars_none hV
  obtain ⟨a0, rfl, rfl, rfl, y0⟩ := open_string Tryd.underlying9 (hval 0 9 v0 rfl rfl) h0
  clear hA0 hval0 hsz0 hsz
  refine (WalkFnExactReadMatrix.laws_FnExactReadMatrix.calls a0 y0 W (of_LaidErr hL) (of_LaidMax hsh) (of_LaidPow hL)).mono ?_
  rintro e W' ⟨rfl, bel0⟩
  have bel : Below W.heap.size W W' := bel0
  exact ⟨_, rfl, _, _, _, [], _, [], hW', trodAll_mk1 (shut_bool Tryd.underlying4 _), (trodAll_cons_mk (shut_string Tryd.underlying9 y0) trodAll_mk0), rfl, bel.frame _, fun h => by cases h⟩
theorem over : Rows.fnExactReadMatrixRow.holds Tryd.pinned (OpenSpec.ofChange Rows.fnExactReadMatrixSpec) :=
  OpenClaim.holds_of_wide 4 Tryd.f4 rfl rfl rfl rfl rfl rfl rfl ⟨rfl, rfl, rfl, rfl, rfl⟩ rfl rfl rfl rfl rfl (by kernel_rfl) Tryd.func4 closed
    (of_decide_eq_true (by kernel_rfl)) (by unfold Func.isWrapper; first | (rw [if_pos (by decide +kernel)]; kernel_rfl) | (rw [if_neg (by decide +kernel)]; exact ⟨rfl, rfl⟩))
    (fun os started H enc _ => lifted os started H enc)
theorem proved : Rows.FnExactReadMatrixSaid := over
theorem carded : Rows.FnExactReadMatrixCardSaid :=
  Claim7.holds_tied_plain_at .later [] [.data, .data, .data, .data, .sentinel, .sentinel, .pinned] true (true, "c2fd38d03ba83896cb86829eacc2852e237c81a2cbdb00ab82e12069a3e212b0") true over (fun _ h => by cases h) (by kernel_rfl) (fun _ h => by cases h) fnExactReadMatrix_row_tie rfl ⟨rfl, rfl⟩ (by kernel_rfl) rfl
    (fun f fn hf hfn => by
      obtain rfl : f = 4 := Option.some.inj ((show Tryd.prog.funcNamed "loop.example/g01307/laws.FnExactReadMatrix" = some 4 by kernel_rfl).symm.trans hf) |>.symm
      obtain rfl : fn = Tryd.f4 := (Option.some.inj (Tryd.func4.symm.trans hfn)).symm
      exact ⟨by kernel_rfl, fun j t ht => by
        rw [Tryd.params4] at ht
        have hm : t ∈ [9] := by simpa using Array.mem_of_getElem? ht
        have hall : ([9].all fun u => !Tryd.prog.wantsStandIn u) = true := by kernel_rfl
        exact (show Tryd.prog.wantsStandIn t = false by simpa using List.all_eq_true.1 hall t hm)⟩)
    (by kernel_rfl)
#print axioms carded
#print axioms proved
end Go.Proofs.YtdgglnjegkmamaaDoor.fnExactReadMatrix
namespace Go.Proofs.YtdgglnjegkmamaaDoor
/-- The row, under a short name, for the claim. -/
theorem fnExactReadMatrix_card : Rows.FnExactReadMatrixCardSaid := fnExactReadMatrix.carded
end Go.Proofs.YtdgglnjegkmamaaDoor
