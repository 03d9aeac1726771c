/- The row of the law FnPlaces: whatever the input, it returns true, and its arguments read as they did. It rests on the printed contract of the law's function and on the pure statement in YtojjakjpdkpmiaaGreatDoorPureFnPlaces. No condition. -/
import Derived.Test.YtojjakjpdkpmiaaGreatDoorRows
import Derived.Test.YtojjakjpdkpmiaaGreatDoorQFnPlacesx11
import Derived.Test.YtojjakjpdkpmiaaGreatDoorPureFnPlaces
import Derived.Test.YtojjakjpdkpmiaaGreatDoorWSized
import Derived.Test.YtojjakjpdkpmiaaGreatDoorRows2
import Derived.WalkKit
import Derived.ProofKit
import Derived.OpenShut
import Derived.ShutString
import Derived.ChangeOld
import Derived.Below
import Derived.SizedLaws
import Derived.Lib.SmallJoins
import Derived.LaidMore
import Derived.Lib.LaidTab
import Derived.Stop.LaidErr
import Derived.MakeChecks
import Derived.SevenTiedAt
import Derived.LaidHandle
import Derived.LaidLaws
import Derived.Lay
import Derived.Handed
import Derived.Deep.DeepHandedRow
import Derived.Test.YtojjakjpdkpmiaaGreatDoorCards
import Derived.Test.YtojjakjpdkpmiaaGreatDoorTie
import Derived.Test.YtojjakjpdkpmiaaGreatDoorFactsFnPlaces
import Derived.Test.YtojjakjpdkpmiaaGreatDoorShMax
namespace Go.Proofs.YtojjakjpdkpmiaaGreatDoor.fnPlaces
open Go.ChangeShapes Go.WideShapes Go.ChangeAt Go.RowKit Go.Joins
open Go.ChangeMaps (open_string shut_string)
open Go.Proofs.YtojjakjpdkpmiaaGreatDoorW.PrintWords Go.Proofs.YtojjakjpdkpmiaaGreatDoorW.PrintLast Go.Proofs.YtojjakjpdkpmiaaGreatDoor.Lib
set_option linter.unusedVariables false
set_option linter.unusedSimpArgs false
theorem own : ownKnob Tryz.prog.godebug = none := by kernel_rfl
theorem laidOut : laidOutB Tryz.prog = true := by kernel_rfl
abbrev LAID : List (String × DataW Unit) := [("math/bits.deBruijn32tab", Rows.laid_math_bits_deBruijn32tab), ("math/bits.deBruijn64tab", Rows.laid_math_bits_deBruijn64tab), ("internal/strconv.uint64pow10", Rows.laid_internal_strconv_uint64pow10), ("unicode/utf8.acceptRanges", Rows.laid_unicode_utf8_acceptRanges), ("strconv.ErrRange", Rows.laid_strconv_ErrRange), ("strconv.ErrSyntax", Rows.laid_strconv_ErrSyntax), ("unicode/utf8.first", Rows.laid_unicode_utf8_first)]
/-- The laid table's cells, out of the row's condition. -/
theorem of_LaidPow {W : World} (h : laidMetH Tryz.prog LAID W) : QFnPlaces.LaidPow W := by
  rw [MakeChecks.laidMetH_plain _ _ _ (by kernel_rfl)] at h
  have e : (Rows.laid_internal_strconv_uint64pow10 : DataW Unit) = Lib.tabData .u64 Lib.pow10Tab := by kernel_rfl
  have h2 : laidMet Tryz.prog (LAID.drop 2) W := laidMet.tail (laidMet.tail (h))
  have h3 : laidMet Tryz.prog (("internal/strconv.uint64pow10", Lib.tabData .u64 Lib.pow10Tab) :: LAID.drop 3) W := by rw [← e]; exact h2
  have ht : Lib.TabIs Tryz.prog W "internal/strconv.uint64pow10" .u64 Lib.pow10Tab := Lib.tabIs_of_head (g := 3) (by kernel_rfl) (by kernel_rfl) Tryz.underlying133 Tryz.underlying77 (by kernel_rfl) (by kernel_rfl) h3
  exact ⟨ht⟩
theorem of_LaidMax {W : World} (h : W.ShapedOpen Tryz.prog) : QFnPlaces.LaidMax W := ⟨Tryz.laysM146.s1_3 W h⟩
theorem errStar : ("*" ++ "errors.errorString" : String) = "*errors.errorString" := by decide
theorem errRow (u : TypeId) (h : Tryz.prog.typeName? 3 u = some "*errors.errorString") : u = 144 :=
  typeName_ptr_named (nm := "errors.errorString") (by rw [errStar]; kernel_rfl) (by kernel_rfl) (by decide) u (by rw [errStar]; exact h)
theorem errCells : Tryz.prog.cellsOf 146 = 1 := by kernel_rfl
theorem strCells : Tryz.prog.cellsOf 9 = 1 := by kernel_rfl
theorem of_errSyntax {W : World} (h : laidMetH Tryz.prog LAID W) : ∃ ev, W.cell? ⟨1, 0, none⟩ = some ev ∧ (ev = .nilIface ∨ ∃ te pe, ev = .iface te pe) := by
  rw [MakeChecks.laidMetH_plain _ _ _ (by kernel_rfl)] at h
  have h2 : laidMet Tryz.prog (LAID.drop 5) W := laidMet.tail (laidMet.tail (laidMet.tail (laidMet.tail (laidMet.tail (h)))))
  obtain ⟨a, _, hv, _, _, _⟩ := laid_sentinel (g := 1) h2 (by kernel_rfl) (by kernel_rfl) Tryz.underlying84 errRow Tryz.underlying144 Tryz.underlying146 rfl rfl Tryz.underlying9 errCells strCells
  have := World.var?_cell (g := 1) (by kernel_rfl) hv 0
  exact ⟨_, this, .inr ⟨_, _, rfl⟩⟩
theorem of_errRange {W : World} (h : laidMetH Tryz.prog LAID W) : ∃ ev, W.cell? ⟨2, 0, none⟩ = some ev ∧ (ev = .nilIface ∨ ∃ te pe, ev = .iface te pe) := by
  rw [MakeChecks.laidMetH_plain _ _ _ (by kernel_rfl)] at h
  have h2 : laidMet Tryz.prog (LAID.drop 4) W := laidMet.tail (laidMet.tail (laidMet.tail (laidMet.tail (h))))
  obtain ⟨a, _, hv, _, _, _⟩ := laid_sentinel (g := 2) h2 (by kernel_rfl) (by kernel_rfl) Tryz.underlying84 errRow Tryz.underlying144 Tryz.underlying146 rfl rfl Tryz.underlying9 errCells strCells
  have := World.var?_cell (g := 2) (by kernel_rfl) hv 0
  exact ⟨_, this, .inr ⟨_, _, rfl⟩⟩
theorem of_LaidErr {W : World} (h : laidMetH Tryz.prog LAID W) : QFnPlaces.LaidErr W := ⟨⟨of_errSyntax h, of_errRange h⟩⟩
set_option maxRecDepth 100000 in
theorem lifted (os : Os) (started : os.Started) (H : Type) (enc : TypeId × Value → H) :
    ReturnsInHanded {} Tryz.checked os 3 .any (fun w args => (Rows.fnPlacesSpec.pre enc Tryz.prog Tryz.f3 [] false w args ∧ laidMetH Tryz.prog LAID w) ∧ sizedMet enc Tryz.prog Tryz.f3 (OpenSpec.ofChange Rows.fnPlacesSpec) false w args) (Rows.fnPlacesSpec.post enc Tryz.prog Tryz.f3 false true false false) := by
  refine returnsInHanded_of_row (s := OpenSpec.ofChange Rows.fnPlacesSpec) (F := fun _ _ _ => 0) (laid := LAID) (conds := []) (C := Tryz.checked) own started (by kernel_rfl) Tryz.func3
    (ChangeSpec.witness_shaped (enc := enc) (C := Tryz.checked) (os := os) (X := fun w _ => laidMetH Tryz.prog LAID w) false (World.laidAll Tryz.prog os LAID) #[.slice none 0 0, .slice none 0 0] 8 (World.laidAll_os _ _ _) (World.shaped_of_ZipB (by kernel_rfl) (by kernel_rfl)) (by kernel_rfl) (by kernel_rfl) (by kernel_rfl) (by rw [MakeChecks.laidMetH_plain _ _ _ (by kernel_rfl)]; exact laidMet_laidAll _ (by kernel_rfl) (by kernel_rfl))) ?_
  intro W base args ds gs before hval0 hW hcnd _ hsz0 hL hsh _
  have hsz : (DataW.weightsEach Tryz.prog (Tryz.f3.params.toList ++ Rows.fnPlacesSpec.plain.varTypes Tryz.prog) (ds ++ gs)).all (· ≤ reachBytes) = true := hsz0
  have hval : ∀ (j : Nat) t v, Tryz.f3.params[j]? = some t → args[j]? = some v → Value.okWide Tryz.prog W .any base t v := hval0
  have hW' := hW
  obtain ⟨p, q, hA0, hV, rfl, hfz, hnd⟩ := hW
  have hA : DataW.TrodAll enc Tryz.prog W 0 (fun _ => true) true Tryz.f3.params.toList args.toList ds p := hA0
  rw [Tryz.params3] at hA hval hsz
  obtain ⟨v0, vs0, d0, ds0, p0, q0, hargs, rfl, rfl, h0, r0⟩ := trodAll_cons hA
  obtain ⟨v1, vs1, d1, ds1, p1, q1, rfl, rfl, rfl, h1, r1⟩ := trodAll_cons r0
  obtain ⟨rfl, rfl, rfl⟩ := trodAll_nil r1
  obtain rfl : args = #[v0, v1] := by cases args; simp_all
  obtain ⟨rfl, rfl⟩ := trodVars_none hV
  obtain ⟨a0, len0, cap0, rfl⟩ := okWide_slice Tryz.underlying22 (hval 0 22 v0 rfl rfl)
  have k0 := h0
  have lt0 : ∀ x ∈ p0, x.block < W.heap.size := by obtain ⟨m, hm⟩ := k0; exact DataW.trod_lt m _ _ _ hm
  obtain ⟨z0, rfl, hc0, hm0, hr0, hw0⟩ := ints_read Tryz.underlying22 Tryz.underlying5 (by kernel_rfl) h0
  have y0 : z0.length * 1 ≤ 140737488351232 := sized_ints hsz (j := 0) (t := 22) rfl rfl Tryz.underlying22 Tryz.underlying5 (by kernel_rfl) (by kernel_rfl) k0
  obtain ⟨a1, len1, cap1, rfl⟩ := okWide_slice Tryz.underlying22 (hval 1 22 v1 rfl rfl)
  have k1 := h1
  have lt1 : ∀ x ∈ p1, x.block < W.heap.size := by obtain ⟨m, hm⟩ := k1; exact DataW.trod_lt m _ _ _ hm
  obtain ⟨z1, rfl, hc1, hm1, hr1, hw1⟩ := ints_read Tryz.underlying22 Tryz.underlying5 (by kernel_rfl) h1
  have y1 : z1.length * 1 ≤ 140737488351232 := sized_ints hsz (j := 1) (t := 22) rfl rfl Tryz.underlying22 Tryz.underlying5 (by kernel_rfl) (by kernel_rfl) k1
  clear hA0 hval0 hsz0 hsz
  obtain ⟨kr, hk⟩ := Pure.FnPlaces z0 z1 hm0 y0 hw0 hm1 y1 hw1
  refine (QFnPlaces.laws_FnPlaces.calls kr _ _ z0 _ _ z1 true W hr0 hc0 hr1 hc1 (of_LaidErr hL) (of_LaidMax hsh) (of_LaidPow hL) rfl hk).mono ?_
  rintro e W' ⟨rfl, bel0⟩
  have bel : Below W.heap.size W W' := bel0
  exact ⟨_, rfl, _, _, _, [], _, [], hW', trodAll_mk1 (shut_bool Tryz.underlying4 _), (trodAll_cons_mk (Below.trod laidOut (by kernel_rfl) (of_decide_eq_true (by kernel_rfl)) k0 bel lt0) (trodAll_cons_mk (Below.trod laidOut (by kernel_rfl) (of_decide_eq_true (by kernel_rfl)) k1 bel lt1) trodAll_mk0)), rfl, bel.frame _, fun h => by cases h⟩
theorem over : Rows.fnPlacesRow.holds Tryz.pinned (OpenSpec.ofChange Rows.fnPlacesSpec) :=
  OpenClaim.holds_of_wide 3 Tryz.f3 rfl rfl rfl rfl rfl rfl rfl ⟨rfl, rfl, rfl, rfl, rfl⟩ rfl rfl rfl rfl rfl (by kernel_rfl) Tryz.func3 closed
    (of_decide_eq_true (by kernel_rfl)) (by unfold Func.isWrapper; first | (rw [if_pos (by decide +kernel)]; kernel_rfl) | (rw [if_neg (by decide +kernel)]; exact ⟨rfl, rfl⟩))
    (fun os started H enc _ => lifted os started H enc)
theorem proved : Rows.FnPlacesSaid := over
theorem carded : Rows.FnPlacesCardSaid :=
  Claim7.holds_tied_plain_at .later [] [.data, .data, .data, .data, .sentinel, .sentinel, .pinned] true (true, "e2a1b36b886f1cd4c8e852936bf5b1e475f103e2c0b82fd394e52707e4932488") true over (fun _ h => by cases h) (by kernel_rfl) (fun _ h => by cases h) fnPlaces_row_tie rfl ⟨rfl, rfl⟩ (by kernel_rfl) rfl
    (fun f fn hf hfn => by
      obtain rfl : f = 3 := Option.some.inj ((show Tryz.prog.funcNamed "loop.example/g01307/laws.FnPlaces" = some 3 by kernel_rfl).symm.trans hf) |>.symm
      obtain rfl : fn = Tryz.f3 := (Option.some.inj (Tryz.func3.symm.trans hfn)).symm
      exact ⟨by kernel_rfl, fun j t ht => by
        rw [Tryz.params3] at ht
        have hm : t ∈ [22, 22] := by simpa using Array.mem_of_getElem? ht
        have hall : ([22, 22].all fun u => !Tryz.prog.wantsStandIn u) = true := by kernel_rfl
        exact (show Tryz.prog.wantsStandIn t = false by simpa using List.all_eq_true.1 hall t hm)⟩)
    (by kernel_rfl)
#print axioms carded
#print axioms proved
end Go.Proofs.YtojjakjpdkpmiaaGreatDoor.fnPlaces
namespace Go.Proofs.YtojjakjpdkpmiaaGreatDoor
/-- The row, under a short name, for the claim. -/
theorem fnPlaces_card : Rows.FnPlacesCardSaid := fnPlaces.carded
end Go.Proofs.YtojjakjpdkpmiaaGreatDoor
