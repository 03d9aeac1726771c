/- Written by the session's own program (wip/myprint.py), for the law FnPlaces: each function as a plain Lean function, and its contract. -/
import Derived.Test.YtojjakjpdkpmiaaGreatDoorQFnPlacesx0
import Derived.Test.YtojjakjpdkpmiaaGreatDoorQFnPlacesx2
import Derived.Test.YtojjakjpdkpmiaaGreatDoorQFnPlacesx3
import Derived.Test.YtojjakjpdkpmiaaGreatDoorQFnPlacesx4
import Derived.Test.YtojjakjpdkpmiaaGreatDoorQFnPlacesx5
import Derived.Test.YtojjakjpdkpmiaaGreatDoorQFnPlacesx6
import Derived.Test.YtojjakjpdkpmiaaGreatDoorQFnPlacesx7
import Derived.Test.YtojjakjpdkpmiaaGreatDoorQFnPlacesx8
import Derived.Test.YtojjakjpdkpmiaaGreatDoorQFnPlacesx9
import Derived.Test.YtojjakjpdkpmiaaGreatDoorQFnPlacesx10
namespace Go.Proofs.YtojjakjpdkpmiaaGreatDoor.QFnPlaces
open Go.RowKit Go.Proofs.YtojjakjpdkpmiaaGreatDoorW.PrintWords Go.Proofs.YtojjakjpdkpmiaaGreatDoorW.PrintLast Go.Proofs.YtojjakjpdkpmiaaGreatDoorW.PrintMore
attribute [local go_sem] max2_int min2_int max_two min_two max_three min_three max_four min_four   -- for this text's walks alone
set_option linter.unusedVariables false
set_option linter.unusedSimpArgs false

/-! ### laws_FnPlaces: function 3 -/
mutual
def laws_FnPlaces.j0 : Nat → List Int → List Int → Bool → Option (Bool)
  | 0, _, _, _ => none
  | k + 1, x0, x1, x46 => if x46 = true then (some true) else ((spec_P6Game.f k x0).bind fun t395 => ((impl_ValuesOf.f k t395).bind fun bt398 => ((spec_ValuesOf.f k t395).bind fun bt402 => ((impl_CheckValues.f k t395 bt402.1).bind fun bt406 => ((impl_FirstBroken.f k t395 bt402.1).bind fun bt408 => ((impl_GameText.f k t395).bind fun t410 => ((impl_ReadGame.f k t410).bind fun bt411 => (if bt398.2 = bt402.2 then (if bt398.2 = 0 then ((spec_SameNims.f k bt398.1 bt402.1).bind fun t415 => (if t415 = true then (if (bt402.1.length : Int) = (t395.length : Int) then (if bt406.2 = 0 then (if bt406.1 = true then (if bt408.2 = 6 then (if bt411.2 = 0 then ((spec_SameGame.f k bt411.1 t395).bind fun t416 => (if t416 = true then ((impl_SameGame.f bt411.1 t395).bind fun t417 => (if t417 = true then ((impl_ValidGame.f k t395).bind fun t418 => (laws_FnPlaces.j1 k x0 x1 t395 bt402.1 (!t418))) else (laws_FnPlaces.j1 k x0 x1 t395 bt402.1 true))) else (laws_FnPlaces.j1 k x0 x1 t395 bt402.1 true))) else (laws_FnPlaces.j1 k x0 x1 t395 bt402.1 true)) else (laws_FnPlaces.j1 k x0 x1 t395 bt402.1 true)) else (laws_FnPlaces.j1 k x0 x1 t395 bt402.1 true)) else (laws_FnPlaces.j1 k x0 x1 t395 bt402.1 true)) else (laws_FnPlaces.j1 k x0 x1 t395 bt402.1 true)) else (laws_FnPlaces.j1 k x0 x1 t395 bt402.1 true))) else (laws_FnPlaces.j1 k x0 x1 t395 bt402.1 true)) else (laws_FnPlaces.j1 k x0 x1 t395 bt402.1 true)))))))))
def laws_FnPlaces.j1 : Nat → List Int → List Int → List (List Int) → List Int → Bool → Option (Bool)
  | 0, _, _, _, _, _ => none
  | k + 1, x0, x1, x5, x8, x129 => if x129 = true then (some false) else ((some (([] : List Int) : List Int)).bind fun y419 => (if y419.length + x8.length < 70368744177664 then ((some (y419 ++ x8 : List Int)).bind fun y422 => ((spec_P6Pick.f x1 (y422.length : Int)).bind fun t425 => (if 0 ≤ t425 then (if t425 < (y422.length : Int) then ((spec_P6Pick.f x0 3).bind fun t427 => ((some (y422.set (t425 : Int).toNat (IntKind.u16.wrap ((rd y422 t425) + (IntKind.u16.wrap (1 + (IntKind.u16.wrap (t427)))))) : List Int)).bind fun y428 => ((impl_CheckValues.f k x5 y428).bind fun bt429 => ((impl_FirstBroken.f k x5 y428).bind fun bt431 => (if bt429.2 = 0 then (if bt429.1 = true then (laws_FnPlaces.j2 k x1 x5 x8 t425 true) else (if bt431.2 = 0 then (laws_FnPlaces.j2 k x1 x5 x8 t425 (bt431.1 != t425)) else (laws_FnPlaces.j2 k x1 x5 x8 t425 true))) else (laws_FnPlaces.j2 k x1 x5 x8 t425 true)))))) else (none)) else (none)))) else (none)))
def laws_FnPlaces.j2 : Nat → List Int → List (List Int) → List Int → Int → Bool → Option (Bool)
  | 0, _, _, _, _, _ => none
  | k + 1, x1, x5, x8, x17, x172 => if x172 = true then (some false) else ((spec_P6Places.f k x1 x5).bind fun t433 => ((impl_SumAt.f k x5 t433).bind fun bt436 => (laws_FnPlaces.l0 k x5 x8 x17 t433 bt436.1 bt436.2 0 0)))
def laws_FnPlaces.l0 : Nat → List (List Int) → List Int → Int → List Int → Int → Int → Int → Int → Option (Bool)
  | 0, _, _, _, _, _, _, _, _ => none
  | k + 1, x5, x8, x17, x22, x23, x24, x25, x26 => if x26 < (x22.length : Int) then (if 0 ≤ x26 then ((impl_ValueAt.f k x5 (rd x22 x26)).bind fun bt439 => (if bt439.2 = 0 then (if 0 ≤ (rd x22 x26) then (if (rd x22 x26) < (x8.length : Int) then (if bt439.1 = (rd x8 (rd x22 x26)) then ((impl_PlusNim.f x25 bt439.1).bind fun t443 => (laws_FnPlaces.l0 k x5 x8 x17 x22 x23 x24 t443 (wrap64 (x26 + 1)))) else (some false)) else (none)) else (none)) else (some false))) else (none)) else ((impl_WinningMoves.f k x5 x22).bind fun bt444 => ((spec_WinningMoves.f k x5 x22).bind fun bt448 => (if x24 = 0 then (if x23 = x25 then (if bt444.2 = bt448.2 then (if bt444.2 = 0 then ((spec_SamePairs.f k bt444.1 bt448.1).bind fun t452 => (if t452 = true then (laws_FnPlaces.j4 k x5 x8 x17 x22 bt448.1 ((decide ((bt448.1.length : Int) > 0)) != (x25 != 0))) else (laws_FnPlaces.j4 k x5 x8 x17 x22 bt448.1 true))) else (laws_FnPlaces.j4 k x5 x8 x17 x22 bt448.1 true)) else (laws_FnPlaces.j4 k x5 x8 x17 x22 bt448.1 true)) else (laws_FnPlaces.j4 k x5 x8 x17 x22 bt448.1 true)) else (laws_FnPlaces.j4 k x5 x8 x17 x22 bt448.1 true))))
def laws_FnPlaces.j4 : Nat → List (List Int) → List Int → Int → List Int → List (S53) → Bool → Option (Bool)
  | 0, _, _, _, _, _, _ => none
  | k + 1, x5, x8, x17, x22, x31, x254 => if x254 = true then (some false) else (laws_FnPlaces.l1 k x5 x8 x17 x22 x31 0)
def laws_FnPlaces.l1 : Nat → List (List Int) → List Int → Int → List Int → List (S53) → Int → Option (Bool)
  | 0, _, _, _, _, _, _ => none
  | k + 1, x5, x8, x17, x22, x31, x33 => if x33 < (x31.length : Int) then ((some (([] : List Int) : List Int)).bind fun y457 => (if y457.length + x22.length < 17592186044416 then ((some (y457 ++ x22 : List Int)).bind fun y460 => (if 0 ≤ x33 then (if ((rd_T53 x31 x33).f0) < 0 then (laws_FnPlaces.j6 k x5 x8 x17 x22 x31 x33 y460 true) else (laws_FnPlaces.j6 k x5 x8 x17 x22 x31 x33 y460 (decide (((rd_T53 x31 x33).f0) ≥ (y460.length : Int))))) else (none))) else (none))) else ((impl_LongestPlay.f k x5 x17).bind fun bt453 => (if bt453.2 = 0 then (if 0 ≤ x17 then (if x17 < (x8.length : Int) then (if bt453.1 < (wrap64 (rd x8 x17)) then (some false) else (if bt453.1 > x17 then (some false) else (if x17 < (x5.length : Int) then (if ((bt453.1 == 0) != (((rd_L2 x5 x17).length : Int) == 0)) = true then (some false) else (some true)) else (none)))) else (none)) else (none)) else (some false)))
def laws_FnPlaces.j6 : Nat → List (List Int) → List Int → Int → List Int → List (S53) → Int → List Int → Bool → Option (Bool)
  | 0, _, _, _, _, _, _, _, _ => none
  | k + 1, x5, x8, x17, x22, x31, x33, x34, x279 => if x279 = true then (some false) else (if 0 ≤ x33 then (if x33 < (x31.length : Int) then (if 0 ≤ ((rd_T53 x31 x33).f0) then (if ((rd_T53 x31 x33).f0) < (x34.length : Int) then ((some (x34.set (((rd_T53 x31 x33).f0) : Int).toNat ((rd_T53 x31 x33).f1) : List Int)).bind fun y467 => ((impl_WinningMoves.f k x5 y467).bind fun bt468 => ((impl_SumAt.f k x5 y467).bind fun bt472 => (if bt468.2 = 0 then (if (bt468.1.length : Int) = 0 then (if bt472.2 = 0 then (if bt472.1 = 0 then (laws_FnPlaces.l1 k x5 x8 x17 x22 x31 (wrap64 (x33 + 1))) else (some false)) else (some false)) else (some false)) else (some false))))) else (none)) else (none)) else (none)) else (none))
end
def laws_FnPlaces.f (k : Nat) (l0 : List Int) (l1 : List Int) : Option (Bool) := (laws_f6big.f l0).bind fun t393 => (if t393 = true then (laws_FnPlaces.j0 k l0 l1 true) else ((laws_f6big.f l1).bind fun t394 => (laws_FnPlaces.j0 k l0 l1 t394)))
theorem laws_FnPlaces.mono_l : ∀ k, (∀ y0 y1 y2, LeO (laws_FnPlaces.j0 k y0 y1 y2) (laws_FnPlaces.j0 (k + 1) y0 y1 y2)) ∧ (∀ y0 y1 y2 y3 y4, LeO (laws_FnPlaces.j1 k y0 y1 y2 y3 y4) (laws_FnPlaces.j1 (k + 1) y0 y1 y2 y3 y4)) ∧ (∀ y0 y1 y2 y3 y4, LeO (laws_FnPlaces.j2 k y0 y1 y2 y3 y4) (laws_FnPlaces.j2 (k + 1) y0 y1 y2 y3 y4)) ∧ (∀ y0 y1 y2 y3 y4 y5 y6 y7, LeO (laws_FnPlaces.l0 k y0 y1 y2 y3 y4 y5 y6 y7) (laws_FnPlaces.l0 (k + 1) y0 y1 y2 y3 y4 y5 y6 y7)) ∧ (∀ y0 y1 y2 y3 y4 y5, LeO (laws_FnPlaces.j4 k y0 y1 y2 y3 y4 y5) (laws_FnPlaces.j4 (k + 1) y0 y1 y2 y3 y4 y5)) ∧ (∀ y0 y1 y2 y3 y4 y5, LeO (laws_FnPlaces.l1 k y0 y1 y2 y3 y4 y5) (laws_FnPlaces.l1 (k + 1) y0 y1 y2 y3 y4 y5)) ∧ (∀ y0 y1 y2 y3 y4 y5 y6 y7, LeO (laws_FnPlaces.j6 k y0 y1 y2 y3 y4 y5 y6 y7) (laws_FnPlaces.j6 (k + 1) y0 y1 y2 y3 y4 y5 y6 y7))
  | 0 => ⟨fun _ _ _ r h => by simp [laws_FnPlaces.j0] at h, fun _ _ _ _ _ r h => by simp [laws_FnPlaces.j1] at h, fun _ _ _ _ _ r h => by simp [laws_FnPlaces.j2] at h, fun _ _ _ _ _ _ _ _ r h => by simp [laws_FnPlaces.l0] at h, fun _ _ _ _ _ _ r h => by simp [laws_FnPlaces.j4] at h, fun _ _ _ _ _ _ r h => by simp [laws_FnPlaces.l1] at h, fun _ _ _ _ _ _ _ _ r h => by simp [laws_FnPlaces.j6] at h⟩
  | k + 1 => by
    obtain ⟨ih0, ih1, ih2, ih3, ih4, ih5, ih6⟩ := laws_FnPlaces.mono_l k
    refine ⟨?_, ?_, ?_, ?_, ?_, ?_, ?_⟩
    · intro y0 y1 y2
      unfold laws_FnPlaces.j0
      repeat' first
      | (with_reducible exact ih0 _ _ _)
      | (with_reducible exact ih1 _ _ _ _ _)
      | (with_reducible exact ih2 _ _ _ _ _)
      | (with_reducible exact ih3 _ _ _ _ _ _ _ _)
      | (with_reducible exact ih4 _ _ _ _ _ _)
      | (with_reducible exact ih5 _ _ _ _ _ _)
      | (with_reducible exact ih6 _ _ _ _ _ _ _ _)
      | (with_reducible exact impl_CheckValues.mono _ _ _)
      | (with_reducible exact impl_FirstBroken.mono _ _ _)
      | (with_reducible exact impl_GameText.mono _ _)
      | (with_reducible exact impl_LongestPlay.mono _ _ _)
      | (with_reducible exact impl_ReadGame.mono _ _)
      | (with_reducible exact impl_SumAt.mono _ _ _)
      | (with_reducible exact impl_ValidGame.mono _ _)
      | (with_reducible exact impl_ValueAt.mono _ _ _)
      | (with_reducible exact impl_ValuesOf.mono _ _)
      | (with_reducible exact impl_WinningMoves.mono _ _ _)
      | (with_reducible exact spec_P6Game.mono _ _)
      | (with_reducible exact spec_P6Places.mono _ _ _)
      | (with_reducible exact spec_SameGame.mono _ _ _)
      | (with_reducible exact spec_SameNims.mono _ _ _)
      | (with_reducible exact spec_SamePairs.mono _ _ _)
      | (with_reducible exact spec_ValuesOf.mono _ _)
      | (with_reducible exact spec_WinningMoves.mono _ _ _)
      | (with_reducible exact LeO.refl _)
      | (with_reducible exact LeO.none _)
      | (with_reducible refine LeO.ite ?_ ?_)
      | (with_reducible refine LeO.bind ?_ (fun _ => ?_))
      | exact ih0 _ _ _
      | exact ih1 _ _ _ _ _
      | exact ih2 _ _ _ _ _
      | exact ih3 _ _ _ _ _ _ _ _
      | exact ih4 _ _ _ _ _ _
      | exact ih5 _ _ _ _ _ _
      | exact ih6 _ _ _ _ _ _ _ _
      | exact impl_CheckValues.mono _ _ _
      | exact impl_FirstBroken.mono _ _ _
      | exact impl_GameText.mono _ _
      | exact impl_LongestPlay.mono _ _ _
      | exact impl_ReadGame.mono _ _
      | exact impl_SumAt.mono _ _ _
      | exact impl_ValidGame.mono _ _
      | exact impl_ValueAt.mono _ _ _
      | exact impl_ValuesOf.mono _ _
      | exact impl_WinningMoves.mono _ _ _
      | exact spec_P6Game.mono _ _
      | exact spec_P6Places.mono _ _ _
      | exact spec_SameGame.mono _ _ _
      | exact spec_SameNims.mono _ _ _
      | exact spec_SamePairs.mono _ _ _
      | exact spec_ValuesOf.mono _ _
      | exact spec_WinningMoves.mono _ _ _
      | exact LeO.none _
      | refine LeO.ite ?_ ?_
      | refine LeO.bind ?_ (fun _ => ?_)
    · intro y0 y1 y2 y3 y4
      unfold laws_FnPlaces.j1
      repeat' first
      | (with_reducible exact ih0 _ _ _)
      | (with_reducible exact ih1 _ _ _ _ _)
      | (with_reducible exact ih2 _ _ _ _ _)
      | (with_reducible exact ih3 _ _ _ _ _ _ _ _)
      | (with_reducible exact ih4 _ _ _ _ _ _)
      | (with_reducible exact ih5 _ _ _ _ _ _)
      | (with_reducible exact ih6 _ _ _ _ _ _ _ _)
      | (with_reducible exact impl_CheckValues.mono _ _ _)
      | (with_reducible exact impl_FirstBroken.mono _ _ _)
      | (with_reducible exact impl_GameText.mono _ _)
      | (with_reducible exact impl_LongestPlay.mono _ _ _)
      | (with_reducible exact impl_ReadGame.mono _ _)
      | (with_reducible exact impl_SumAt.mono _ _ _)
      | (with_reducible exact impl_ValidGame.mono _ _)
      | (with_reducible exact impl_ValueAt.mono _ _ _)
      | (with_reducible exact impl_ValuesOf.mono _ _)
      | (with_reducible exact impl_WinningMoves.mono _ _ _)
      | (with_reducible exact spec_P6Game.mono _ _)
      | (with_reducible exact spec_P6Places.mono _ _ _)
      | (with_reducible exact spec_SameGame.mono _ _ _)
      | (with_reducible exact spec_SameNims.mono _ _ _)
      | (with_reducible exact spec_SamePairs.mono _ _ _)
      | (with_reducible exact spec_ValuesOf.mono _ _)
      | (with_reducible exact spec_WinningMoves.mono _ _ _)
      | (with_reducible exact LeO.refl _)
      | (with_reducible exact LeO.none _)
      | (with_reducible refine LeO.ite ?_ ?_)
      | (with_reducible refine LeO.bind ?_ (fun _ => ?_))
      | exact ih0 _ _ _
      | exact ih1 _ _ _ _ _
      | exact ih2 _ _ _ _ _
      | exact ih3 _ _ _ _ _ _ _ _
      | exact ih4 _ _ _ _ _ _
      | exact ih5 _ _ _ _ _ _
      | exact ih6 _ _ _ _ _ _ _ _
      | exact impl_CheckValues.mono _ _ _
      | exact impl_FirstBroken.mono _ _ _
      | exact impl_GameText.mono _ _
      | exact impl_LongestPlay.mono _ _ _
      | exact impl_ReadGame.mono _ _
      | exact impl_SumAt.mono _ _ _
      | exact impl_ValidGame.mono _ _
      | exact impl_ValueAt.mono _ _ _
      | exact impl_ValuesOf.mono _ _
      | exact impl_WinningMoves.mono _ _ _
      | exact spec_P6Game.mono _ _
      | exact spec_P6Places.mono _ _ _
      | exact spec_SameGame.mono _ _ _
      | exact spec_SameNims.mono _ _ _
      | exact spec_SamePairs.mono _ _ _
      | exact spec_ValuesOf.mono _ _
      | exact spec_WinningMoves.mono _ _ _
      | exact LeO.none _
      | refine LeO.ite ?_ ?_
      | refine LeO.bind ?_ (fun _ => ?_)
    · intro y0 y1 y2 y3 y4
      unfold laws_FnPlaces.j2
      repeat' first
      | (with_reducible exact ih0 _ _ _)
      | (with_reducible exact ih1 _ _ _ _ _)
      | (with_reducible exact ih2 _ _ _ _ _)
      | (with_reducible exact ih3 _ _ _ _ _ _ _ _)
      | (with_reducible exact ih4 _ _ _ _ _ _)
      | (with_reducible exact ih5 _ _ _ _ _ _)
      | (with_reducible exact ih6 _ _ _ _ _ _ _ _)
      | (with_reducible exact impl_CheckValues.mono _ _ _)
      | (with_reducible exact impl_FirstBroken.mono _ _ _)
      | (with_reducible exact impl_GameText.mono _ _)
      | (with_reducible exact impl_LongestPlay.mono _ _ _)
      | (with_reducible exact impl_ReadGame.mono _ _)
      | (with_reducible exact impl_SumAt.mono _ _ _)
      | (with_reducible exact impl_ValidGame.mono _ _)
      | (with_reducible exact impl_ValueAt.mono _ _ _)
      | (with_reducible exact impl_ValuesOf.mono _ _)
      | (with_reducible exact impl_WinningMoves.mono _ _ _)
      | (with_reducible exact spec_P6Game.mono _ _)
      | (with_reducible exact spec_P6Places.mono _ _ _)
      | (with_reducible exact spec_SameGame.mono _ _ _)
      | (with_reducible exact spec_SameNims.mono _ _ _)
      | (with_reducible exact spec_SamePairs.mono _ _ _)
      | (with_reducible exact spec_ValuesOf.mono _ _)
      | (with_reducible exact spec_WinningMoves.mono _ _ _)
      | (with_reducible exact LeO.refl _)
      | (with_reducible exact LeO.none _)
      | (with_reducible refine LeO.ite ?_ ?_)
      | (with_reducible refine LeO.bind ?_ (fun _ => ?_))
      | exact ih0 _ _ _
      | exact ih1 _ _ _ _ _
      | exact ih2 _ _ _ _ _
      | exact ih3 _ _ _ _ _ _ _ _
      | exact ih4 _ _ _ _ _ _
      | exact ih5 _ _ _ _ _ _
      | exact ih6 _ _ _ _ _ _ _ _
      | exact impl_CheckValues.mono _ _ _
      | exact impl_FirstBroken.mono _ _ _
      | exact impl_GameText.mono _ _
      | exact impl_LongestPlay.mono _ _ _
      | exact impl_ReadGame.mono _ _
      | exact impl_SumAt.mono _ _ _
      | exact impl_ValidGame.mono _ _
      | exact impl_ValueAt.mono _ _ _
      | exact impl_ValuesOf.mono _ _
      | exact impl_WinningMoves.mono _ _ _
      | exact spec_P6Game.mono _ _
      | exact spec_P6Places.mono _ _ _
      | exact spec_SameGame.mono _ _ _
      | exact spec_SameNims.mono _ _ _
      | exact spec_SamePairs.mono _ _ _
      | exact spec_ValuesOf.mono _ _
      | exact spec_WinningMoves.mono _ _ _
      | exact LeO.none _
      | refine LeO.ite ?_ ?_
      | refine LeO.bind ?_ (fun _ => ?_)
    · intro y0 y1 y2 y3 y4 y5 y6 y7
      unfold laws_FnPlaces.l0
      repeat' first
      | (with_reducible exact ih0 _ _ _)
      | (with_reducible exact ih1 _ _ _ _ _)
      | (with_reducible exact ih2 _ _ _ _ _)
      | (with_reducible exact ih3 _ _ _ _ _ _ _ _)
      | (with_reducible exact ih4 _ _ _ _ _ _)
      | (with_reducible exact ih5 _ _ _ _ _ _)
      | (with_reducible exact ih6 _ _ _ _ _ _ _ _)
      | (with_reducible exact impl_CheckValues.mono _ _ _)
      | (with_reducible exact impl_FirstBroken.mono _ _ _)
      | (with_reducible exact impl_GameText.mono _ _)
      | (with_reducible exact impl_LongestPlay.mono _ _ _)
      | (with_reducible exact impl_ReadGame.mono _ _)
      | (with_reducible exact impl_SumAt.mono _ _ _)
      | (with_reducible exact impl_ValidGame.mono _ _)
      | (with_reducible exact impl_ValueAt.mono _ _ _)
      | (with_reducible exact impl_ValuesOf.mono _ _)
      | (with_reducible exact impl_WinningMoves.mono _ _ _)
      | (with_reducible exact spec_P6Game.mono _ _)
      | (with_reducible exact spec_P6Places.mono _ _ _)
      | (with_reducible exact spec_SameGame.mono _ _ _)
      | (with_reducible exact spec_SameNims.mono _ _ _)
      | (with_reducible exact spec_SamePairs.mono _ _ _)
      | (with_reducible exact spec_ValuesOf.mono _ _)
      | (with_reducible exact spec_WinningMoves.mono _ _ _)
      | (with_reducible exact LeO.refl _)
      | (with_reducible exact LeO.none _)
      | (with_reducible refine LeO.ite ?_ ?_)
      | (with_reducible refine LeO.bind ?_ (fun _ => ?_))
      | exact ih0 _ _ _
      | exact ih1 _ _ _ _ _
      | exact ih2 _ _ _ _ _
      | exact ih3 _ _ _ _ _ _ _ _
      | exact ih4 _ _ _ _ _ _
      | exact ih5 _ _ _ _ _ _
      | exact ih6 _ _ _ _ _ _ _ _
      | exact impl_CheckValues.mono _ _ _
      | exact impl_FirstBroken.mono _ _ _
      | exact impl_GameText.mono _ _
      | exact impl_LongestPlay.mono _ _ _
      | exact impl_ReadGame.mono _ _
      | exact impl_SumAt.mono _ _ _
      | exact impl_ValidGame.mono _ _
      | exact impl_ValueAt.mono _ _ _
      | exact impl_ValuesOf.mono _ _
      | exact impl_WinningMoves.mono _ _ _
      | exact spec_P6Game.mono _ _
      | exact spec_P6Places.mono _ _ _
      | exact spec_SameGame.mono _ _ _
      | exact spec_SameNims.mono _ _ _
      | exact spec_SamePairs.mono _ _ _
      | exact spec_ValuesOf.mono _ _
      | exact spec_WinningMoves.mono _ _ _
      | exact LeO.none _
      | refine LeO.ite ?_ ?_
      | refine LeO.bind ?_ (fun _ => ?_)
    · intro y0 y1 y2 y3 y4 y5
      unfold laws_FnPlaces.j4
      repeat' first
      | (with_reducible exact ih0 _ _ _)
      | (with_reducible exact ih1 _ _ _ _ _)
      | (with_reducible exact ih2 _ _ _ _ _)
      | (with_reducible exact ih3 _ _ _ _ _ _ _ _)
      | (with_reducible exact ih4 _ _ _ _ _ _)
      | (with_reducible exact ih5 _ _ _ _ _ _)
      | (with_reducible exact ih6 _ _ _ _ _ _ _ _)
      | (with_reducible exact impl_CheckValues.mono _ _ _)
      | (with_reducible exact impl_FirstBroken.mono _ _ _)
      | (with_reducible exact impl_GameText.mono _ _)
      | (with_reducible exact impl_LongestPlay.mono _ _ _)
      | (with_reducible exact impl_ReadGame.mono _ _)
      | (with_reducible exact impl_SumAt.mono _ _ _)
      | (with_reducible exact impl_ValidGame.mono _ _)
      | (with_reducible exact impl_ValueAt.mono _ _ _)
      | (with_reducible exact impl_ValuesOf.mono _ _)
      | (with_reducible exact impl_WinningMoves.mono _ _ _)
      | (with_reducible exact spec_P6Game.mono _ _)
      | (with_reducible exact spec_P6Places.mono _ _ _)
      | (with_reducible exact spec_SameGame.mono _ _ _)
      | (with_reducible exact spec_SameNims.mono _ _ _)
      | (with_reducible exact spec_SamePairs.mono _ _ _)
      | (with_reducible exact spec_ValuesOf.mono _ _)
      | (with_reducible exact spec_WinningMoves.mono _ _ _)
      | (with_reducible exact LeO.refl _)
      | (with_reducible exact LeO.none _)
      | (with_reducible refine LeO.ite ?_ ?_)
      | (with_reducible refine LeO.bind ?_ (fun _ => ?_))
      | exact ih0 _ _ _
      | exact ih1 _ _ _ _ _
      | exact ih2 _ _ _ _ _
      | exact ih3 _ _ _ _ _ _ _ _
      | exact ih4 _ _ _ _ _ _
      | exact ih5 _ _ _ _ _ _
      | exact ih6 _ _ _ _ _ _ _ _
      | exact impl_CheckValues.mono _ _ _
      | exact impl_FirstBroken.mono _ _ _
      | exact impl_GameText.mono _ _
      | exact impl_LongestPlay.mono _ _ _
      | exact impl_ReadGame.mono _ _
      | exact impl_SumAt.mono _ _ _
      | exact impl_ValidGame.mono _ _
      | exact impl_ValueAt.mono _ _ _
      | exact impl_ValuesOf.mono _ _
      | exact impl_WinningMoves.mono _ _ _
      | exact spec_P6Game.mono _ _
      | exact spec_P6Places.mono _ _ _
      | exact spec_SameGame.mono _ _ _
      | exact spec_SameNims.mono _ _ _
      | exact spec_SamePairs.mono _ _ _
      | exact spec_ValuesOf.mono _ _
      | exact spec_WinningMoves.mono _ _ _
      | exact LeO.none _
      | refine LeO.ite ?_ ?_
      | refine LeO.bind ?_ (fun _ => ?_)
    · intro y0 y1 y2 y3 y4 y5
      unfold laws_FnPlaces.l1
      repeat' first
      | (with_reducible exact ih0 _ _ _)
      | (with_reducible exact ih1 _ _ _ _ _)
      | (with_reducible exact ih2 _ _ _ _ _)
      | (with_reducible exact ih3 _ _ _ _ _ _ _ _)
      | (with_reducible exact ih4 _ _ _ _ _ _)
      | (with_reducible exact ih5 _ _ _ _ _ _)
      | (with_reducible exact ih6 _ _ _ _ _ _ _ _)
      | (with_reducible exact impl_CheckValues.mono _ _ _)
      | (with_reducible exact impl_FirstBroken.mono _ _ _)
      | (with_reducible exact impl_GameText.mono _ _)
      | (with_reducible exact impl_LongestPlay.mono _ _ _)
      | (with_reducible exact impl_ReadGame.mono _ _)
      | (with_reducible exact impl_SumAt.mono _ _ _)
      | (with_reducible exact impl_ValidGame.mono _ _)
      | (with_reducible exact impl_ValueAt.mono _ _ _)
      | (with_reducible exact impl_ValuesOf.mono _ _)
      | (with_reducible exact impl_WinningMoves.mono _ _ _)
      | (with_reducible exact spec_P6Game.mono _ _)
      | (with_reducible exact spec_P6Places.mono _ _ _)
      | (with_reducible exact spec_SameGame.mono _ _ _)
      | (with_reducible exact spec_SameNims.mono _ _ _)
      | (with_reducible exact spec_SamePairs.mono _ _ _)
      | (with_reducible exact spec_ValuesOf.mono _ _)
      | (with_reducible exact spec_WinningMoves.mono _ _ _)
      | (with_reducible exact LeO.refl _)
      | (with_reducible exact LeO.none _)
      | (with_reducible refine LeO.ite ?_ ?_)
      | (with_reducible refine LeO.bind ?_ (fun _ => ?_))
      | exact ih0 _ _ _
      | exact ih1 _ _ _ _ _
      | exact ih2 _ _ _ _ _
      | exact ih3 _ _ _ _ _ _ _ _
      | exact ih4 _ _ _ _ _ _
      | exact ih5 _ _ _ _ _ _
      | exact ih6 _ _ _ _ _ _ _ _
      | exact impl_CheckValues.mono _ _ _
      | exact impl_FirstBroken.mono _ _ _
      | exact impl_GameText.mono _ _
      | exact impl_LongestPlay.mono _ _ _
      | exact impl_ReadGame.mono _ _
      | exact impl_SumAt.mono _ _ _
      | exact impl_ValidGame.mono _ _
      | exact impl_ValueAt.mono _ _ _
      | exact impl_ValuesOf.mono _ _
      | exact impl_WinningMoves.mono _ _ _
      | exact spec_P6Game.mono _ _
      | exact spec_P6Places.mono _ _ _
      | exact spec_SameGame.mono _ _ _
      | exact spec_SameNims.mono _ _ _
      | exact spec_SamePairs.mono _ _ _
      | exact spec_ValuesOf.mono _ _
      | exact spec_WinningMoves.mono _ _ _
      | exact LeO.none _
      | refine LeO.ite ?_ ?_
      | refine LeO.bind ?_ (fun _ => ?_)
    · intro y0 y1 y2 y3 y4 y5 y6 y7
      unfold laws_FnPlaces.j6
      repeat' first
      | (with_reducible exact ih0 _ _ _)
      | (with_reducible exact ih1 _ _ _ _ _)
      | (with_reducible exact ih2 _ _ _ _ _)
      | (with_reducible exact ih3 _ _ _ _ _ _ _ _)
      | (with_reducible exact ih4 _ _ _ _ _ _)
      | (with_reducible exact ih5 _ _ _ _ _ _)
      | (with_reducible exact ih6 _ _ _ _ _ _ _ _)
      | (with_reducible exact impl_CheckValues.mono _ _ _)
      | (with_reducible exact impl_FirstBroken.mono _ _ _)
      | (with_reducible exact impl_GameText.mono _ _)
      | (with_reducible exact impl_LongestPlay.mono _ _ _)
      | (with_reducible exact impl_ReadGame.mono _ _)
      | (with_reducible exact impl_SumAt.mono _ _ _)
      | (with_reducible exact impl_ValidGame.mono _ _)
      | (with_reducible exact impl_ValueAt.mono _ _ _)
      | (with_reducible exact impl_ValuesOf.mono _ _)
      | (with_reducible exact impl_WinningMoves.mono _ _ _)
      | (with_reducible exact spec_P6Game.mono _ _)
      | (with_reducible exact spec_P6Places.mono _ _ _)
      | (with_reducible exact spec_SameGame.mono _ _ _)
      | (with_reducible exact spec_SameNims.mono _ _ _)
      | (with_reducible exact spec_SamePairs.mono _ _ _)
      | (with_reducible exact spec_ValuesOf.mono _ _)
      | (with_reducible exact spec_WinningMoves.mono _ _ _)
      | (with_reducible exact LeO.refl _)
      | (with_reducible exact LeO.none _)
      | (with_reducible refine LeO.ite ?_ ?_)
      | (with_reducible refine LeO.bind ?_ (fun _ => ?_))
      | exact ih0 _ _ _
      | exact ih1 _ _ _ _ _
      | exact ih2 _ _ _ _ _
      | exact ih3 _ _ _ _ _ _ _ _
      | exact ih4 _ _ _ _ _ _
      | exact ih5 _ _ _ _ _ _
      | exact ih6 _ _ _ _ _ _ _ _
      | exact impl_CheckValues.mono _ _ _
      | exact impl_FirstBroken.mono _ _ _
      | exact impl_GameText.mono _ _
      | exact impl_LongestPlay.mono _ _ _
      | exact impl_ReadGame.mono _ _
      | exact impl_SumAt.mono _ _ _
      | exact impl_ValidGame.mono _ _
      | exact impl_ValueAt.mono _ _ _
      | exact impl_ValuesOf.mono _ _
      | exact impl_WinningMoves.mono _ _ _
      | exact spec_P6Game.mono _ _
      | exact spec_P6Places.mono _ _ _
      | exact spec_SameGame.mono _ _ _
      | exact spec_SameNims.mono _ _ _
      | exact spec_SamePairs.mono _ _ _
      | exact spec_ValuesOf.mono _ _
      | exact spec_WinningMoves.mono _ _ _
      | exact LeO.none _
      | refine LeO.ite ?_ ?_
      | refine LeO.bind ?_ (fun _ => ?_)
theorem laws_FnPlaces.mono : ∀ a0 a1 k, LeO (laws_FnPlaces.f k a0 a1) (laws_FnPlaces.f (k + 1) a0 a1) := by
  intro a0 a1 k
  obtain ⟨ih0, ih1, ih2, ih3, ih4, ih5, ih6⟩ := laws_FnPlaces.mono_l k
  unfold laws_FnPlaces.f
  repeat' first
      | (with_reducible exact ih0 _ _ _)
      | (with_reducible exact ih1 _ _ _ _ _)
      | (with_reducible exact ih2 _ _ _ _ _)
      | (with_reducible exact ih3 _ _ _ _ _ _ _ _)
      | (with_reducible exact ih4 _ _ _ _ _ _)
      | (with_reducible exact ih5 _ _ _ _ _ _)
      | (with_reducible exact ih6 _ _ _ _ _ _ _ _)
      | (with_reducible exact impl_CheckValues.mono _ _ _)
      | (with_reducible exact impl_FirstBroken.mono _ _ _)
      | (with_reducible exact impl_GameText.mono _ _)
      | (with_reducible exact impl_LongestPlay.mono _ _ _)
      | (with_reducible exact impl_ReadGame.mono _ _)
      | (with_reducible exact impl_SumAt.mono _ _ _)
      | (with_reducible exact impl_ValidGame.mono _ _)
      | (with_reducible exact impl_ValueAt.mono _ _ _)
      | (with_reducible exact impl_ValuesOf.mono _ _)
      | (with_reducible exact impl_WinningMoves.mono _ _ _)
      | (with_reducible exact spec_P6Game.mono _ _)
      | (with_reducible exact spec_P6Places.mono _ _ _)
      | (with_reducible exact spec_SameGame.mono _ _ _)
      | (with_reducible exact spec_SameNims.mono _ _ _)
      | (with_reducible exact spec_SamePairs.mono _ _ _)
      | (with_reducible exact spec_ValuesOf.mono _ _)
      | (with_reducible exact spec_WinningMoves.mono _ _ _)
      | (with_reducible exact LeO.refl _)
      | (with_reducible exact LeO.none _)
      | (with_reducible refine LeO.ite ?_ ?_)
      | (with_reducible refine LeO.bind ?_ (fun _ => ?_))
      | exact ih0 _ _ _
      | exact ih1 _ _ _ _ _
      | exact ih2 _ _ _ _ _
      | exact ih3 _ _ _ _ _ _ _ _
      | exact ih4 _ _ _ _ _ _
      | exact ih5 _ _ _ _ _ _
      | exact ih6 _ _ _ _ _ _ _ _
      | exact impl_CheckValues.mono _ _ _
      | exact impl_FirstBroken.mono _ _ _
      | exact impl_GameText.mono _ _
      | exact impl_LongestPlay.mono _ _ _
      | exact impl_ReadGame.mono _ _
      | exact impl_SumAt.mono _ _ _
      | exact impl_ValidGame.mono _ _
      | exact impl_ValueAt.mono _ _ _
      | exact impl_ValuesOf.mono _ _
      | exact impl_WinningMoves.mono _ _ _
      | exact spec_P6Game.mono _ _
      | exact spec_P6Places.mono _ _ _
      | exact spec_SameGame.mono _ _ _
      | exact spec_SameNims.mono _ _ _
      | exact spec_SamePairs.mono _ _ _
      | exact spec_ValuesOf.mono _ _
      | exact spec_WinningMoves.mono _ _ _
      | exact LeO.none _
      | refine LeO.ite ?_ ?_
      | refine LeO.bind ?_ (fun _ => ?_)
def laws_FnPlaces.T13 : Bool × List (List Nat × List Nat) := (true, [([], []), ([], []), ([0, 1], [0, 1]), ([2], [2]), ([], []), ([4], [4]), ([5], [5]), ([6], [6]), ([3, 7], [3, 7]), ([0, 1, 0, 1, 2, 3, 4, 5, 6, 7, 8], [0, 1]), ([9, 8, 5, 0, 1, 2, 3, 4, 5, 6, 7, 8], [8, 9])])
def laws_FnPlaces.B13 : List Nat := [0, 0, 3, 7, 0, 16, 48, 112, 255, 511, 1023]
theorem laws_FnPlaces.tab13 : rtab .any (opsOf Tryz.f3 13) = laws_FnPlaces.T13 := by kernel_rfl
theorem laws_FnPlaces.bits13 : waitsOk laws_FnPlaces.T13.2 laws_FnPlaces.B13 = true := by kernel_rfl
def laws_FnPlaces.T38 : Bool × List (List Nat × List Nat) := (true, [([], []), ([], []), ([], []), ([1, 2], [1, 2]), ([3], [3]), ([4], [4]), ([], []), ([], []), ([6, 7], [6, 7]), ([8], [8]), ([9], [9]), ([0, 5, 0, 1, 2, 3, 4, 5, 6, 7, 8, 9, 10], [0, 5]), ([11, 10, 0, 1, 2, 3, 4, 5, 6, 7, 8, 9, 10], [10, 11])])
def laws_FnPlaces.B38 : List Nat := [0, 0, 0, 6, 14, 30, 0, 0, 192, 448, 960, 2047, 4095]
theorem laws_FnPlaces.tab38 : rtab .any (opsOf Tryz.f3 38) = laws_FnPlaces.T38 := by kernel_rfl
theorem laws_FnPlaces.bits38 : waitsOk laws_FnPlaces.T38.2 laws_FnPlaces.B38 = true := by kernel_rfl
theorem laws_FnPlaces.j1_dead : ∀ (k : Nat) y0 y1 y2 y3, laws_FnPlaces.j1 k y0 y1 y2 y3 true ≠ some true
  | 0 => fun _ _ _ _ => by simp [laws_FnPlaces.j1]
  | k + 1 => fun _ _ _ _ => by simp [laws_FnPlaces.j1]
theorem laws_FnPlaces.j2_dead : ∀ (k : Nat) y0 y1 y2 y3, laws_FnPlaces.j2 k y0 y1 y2 y3 true ≠ some true
  | 0 => fun _ _ _ _ => by simp [laws_FnPlaces.j2]
  | k + 1 => fun _ _ _ _ => by simp [laws_FnPlaces.j2]
theorem laws_FnPlaces.j4_dead : ∀ (k : Nat) y0 y1 y2 y3 y4, laws_FnPlaces.j4 k y0 y1 y2 y3 y4 true ≠ some true
  | 0 => fun _ _ _ _ _ => by simp [laws_FnPlaces.j4]
  | k + 1 => fun _ _ _ _ _ => by simp [laws_FnPlaces.j4]
theorem laws_FnPlaces.j6_dead : ∀ (k : Nat) y0 y1 y2 y3 y4 y5 y6, laws_FnPlaces.j6 k y0 y1 y2 y3 y4 y5 y6 true ≠ some true
  | 0 => fun _ _ _ _ _ _ _ => by simp [laws_FnPlaces.j6]
  | k + 1 => fun _ _ _ _ _ _ _ => by simp [laws_FnPlaces.j6]
set_option maxHeartbeats 8000000 in
set_option maxRecDepth 100000 in
theorem laws_FnPlaces.calls (k : Nat) (A0 : Option Addr) (c0 : Nat) (l0 : List Int) (A1 : Option Addr) (c1 : Nat) (l1 : List Int) (r : Bool) (w : World) (hr0 : Kd.C (Kd.int .u8) w A0 l0.length l0) (hc0 : l0.length ≤ c0) (hr1 : Kd.C (Kd.int .u8) w A1 l1.length l1) (hc1 : l1.length ≤ c1) (hLaidErr_ : LaidErr w) (hLaidMax_ : LaidMax w) (hLaidPow_ : LaidPow w) (hr_ : r = true) (h : laws_FnPlaces.f k l0 l1 = some r) :
    Calls Tryz.prog 3 #[.slice A0 l0.length c0, .slice A1 l1.length c1] w fun e w' => e = .returned (.bool r) ∧ Below w.heap.size w w' := by
  have HLaidErr_ := Aside0.mk hLaidErr_
  clear hLaidErr_
  have HLaidMax_ := Aside0.mk hLaidMax_
  clear hLaidMax_
  have HLaidPow_ := Aside0.mk hLaidPow_
  clear hLaidPow_
  have HR0 := Aside0.mk hr0
  have HC0 := Aside0.mk hc0
  clear hr0 hc0
  have HR1 := Aside0.mk hr1
  have HC1 := Aside0.mk hc1
  clear hr1 hc1
  have HB := Aside0.mk (Below.refl w.heap.size w)
  have H : ((laws_f6big.f l0).bind fun t393 => (if t393 = true then (laws_FnPlaces.j0 k l0 l1 true) else ((laws_f6big.f l1).bind fun t394 => (laws_FnPlaces.j0 k l0 l1 t394)))) = some r := h
  clear h
  have HC3 := Aside0.mk H
  clear H
  go_enter Tryz.func3, Tryz.ntmps3
  go_upto_region 1 with (fail)
  go_cut [46] (fun v46 wc => ∃ (kq : Nat) (x46_2 : Bool), v46 = .bool x46_2 ∧ Aside0 (laws_FnPlaces.j0 kq l0 l1 x46_2 = some r) ∧ Aside0 (kq ≤ k) ∧ Aside0 (Below w.heap.size w wc))
  case first =>
    as_aux_lemma =>
      have H := HC3.out
      clear HC3
      replace H := Option.bind_eq_some_iff.mp H
      obtain ⟨t393, A40, H⟩ := H
      replace H : (if t393 = true then (laws_FnPlaces.j0 k l0 l1 true) else ((laws_f6big.f l1).bind fun t394 => (laws_FnPlaces.j0 k l0 l1 t394))) = some r := H
      have A4 := Aside0.mk A40
      clear A40
      by_cases c5 : t393 = true
      · subst c5
        have H1 : (laws_FnPlaces.j0 k l0 l1 true) = some r := by rw [if_pos rfl] at H; exact H
        clear H
        have H := H1
        clear H1
        have H' := Aside0.mk H
        clear H
        go_wp2_with (first | ((with_reducible refine gate_callee (f := 4) rfl ?_); refine goesL_ (some 42) rfl rfl Tryz.func4 (by kernel_rfl) rfl #[.slice A0 l0.length c0] rfl (by (try simp only [List.map_toArray, List.map_cons, List.map_nil]); first | done | rfl | (simp only [List.length_drop, List.length_take]; rfl)) ?_; (with_reducible refine (laws_f6big.calls _ _ l0 true _ ?side1 ?side2 A4.out).mono ?_); (case side1 => repeat (first | exact (Kd.C_below HR0.out HB.out) | (with_reducible refine Kd.C_alloc ?_ _) | (with_reducible refine Kd.C_drewN ?_ _) | (with_reducible refine Kd.C_drew ?_))); (case side2 => exact HC0.out); rintro e w' ⟨rfl, ⟨nd, rfl⟩⟩; refine ⟨_, rfl, ?_⟩))
        go_meet
        case rel => exact ⟨_, (true), (by first | rfl | (simp; done) | (simp [*]; done)), H', ⟨by first | omega | exact Nat.le_refl _⟩, ⟨by repeat (first | (with_reducible first | exact HB.out | apply below_alloc | apply pw_below_drewN | apply below_drew1) | exact HB.out)⟩⟩
      · replace c5 := Bool.eq_false_iff.mpr c5
        subst c5
        have H1 : ((laws_f6big.f l1).bind fun t394 => (laws_FnPlaces.j0 k l0 l1 t394)) = some r := by rw [if_neg (show ¬ (false = true) by decide)] at H; exact H
        clear H
        have H := H1
        clear H1
        replace H := Option.bind_eq_some_iff.mp H
        obtain ⟨t394, A60, H⟩ := H
        replace H : (laws_FnPlaces.j0 k l0 l1 t394) = some r := H
        have A6 := Aside0.mk A60
        clear A60
        have H' := Aside0.mk H
        clear H
        go_wp2_with (first | ((with_reducible refine gate_callee (f := 4) rfl ?_); refine goesL_ (some 42) rfl rfl Tryz.func4 (by kernel_rfl) rfl #[.slice A0 l0.length c0] rfl (by (try simp only [List.map_toArray, List.map_cons, List.map_nil]); first | done | rfl | (simp only [List.length_drop, List.length_take]; rfl)) ?_; (with_reducible refine (laws_f6big.calls _ _ l0 false _ ?side1 ?side2 A4.out).mono ?_); (case side1 => repeat (first | exact (Kd.C_below HR0.out HB.out) | (with_reducible refine Kd.C_alloc ?_ _) | (with_reducible refine Kd.C_drewN ?_ _) | (with_reducible refine Kd.C_drew ?_))); (case side2 => exact HC0.out); rintro e w' ⟨rfl, ⟨nd, rfl⟩⟩; refine ⟨_, rfl, ?_⟩) | (go_at_call 4; (with_reducible refine (laws_f6big.calls _ _ l1 t394 _ ?side1 ?side2 A6.out).mono ?_); (case side1 => repeat (first | exact (Kd.C_below HR1.out (by repeat (first | (with_reducible first | exact HB.out | apply below_alloc | apply pw_below_drewN | apply below_drew1) | exact HB.out))) | (with_reducible refine Kd.C_alloc ?_ _) | (with_reducible refine Kd.C_drewN ?_ _) | (with_reducible refine Kd.C_drew ?_))); (case side2 => exact HC1.out); rintro e w' ⟨rfl, ⟨nd, rfl⟩⟩))
        go_meet
        case rel => exact ⟨_, (t394), (by first | rfl | (simp; done) | (simp [*]; done)), H', ⟨by first | omega | exact Nat.le_refl _⟩, ⟨by repeat (first | (with_reducible first | exact HB.out | apply below_alloc | apply pw_below_drewN | apply below_drew1) | exact HB.out)⟩⟩
  case rest =>
    as_aux_lemma =>
      clear HC3
      try clear c1
      try clear p2
      try clear c3
      try clear c4
      try clear c5
      obtain ⟨kq, x46_2, rfl, HA, HJ2, HB⟩ := hcut
      cases kq with
      | zero => exact absurd HA.out (by simp [laws_FnPlaces.j0])
      | succ kj2 =>
        have H := HA.out
        clear HA
        simp only [laws_FnPlaces.j0] at H
        by_cases c7 : x46_2 = true
        · subst c7
          have H1 : (some true) = some r := by rw [if_pos rfl] at H; exact H
          clear H
          have H := H1
          clear H1
          obtain rfl := Option.some.inj H
          go_wp2
          go_ret
          exact ⟨by first | rfl | (simp [errW_none, errW_some] <;> rfl) | (simp [*, errW_none, errW_some] <;> rfl), by repeat (first | (with_reducible first | exact HB.out | apply below_alloc | apply pw_below_drewN | apply below_drew1) | exact HB.out)⟩
        · replace c7 := Bool.eq_false_iff.mpr c7
          subst c7
          have H1 : ((spec_P6Game.f kj2 l0).bind fun t395 => ((impl_ValuesOf.f kj2 t395).bind fun bt398 => ((spec_ValuesOf.f kj2 t395).bind fun bt402 => ((impl_CheckValues.f kj2 t395 bt402.1).bind fun bt406 => ((impl_FirstBroken.f kj2 t395 bt402.1).bind fun bt408 => ((impl_GameText.f kj2 t395).bind fun t410 => ((impl_ReadGame.f kj2 t410).bind fun bt411 => (if bt398.2 = bt402.2 then (if bt398.2 = 0 then ((spec_SameNims.f kj2 bt398.1 bt402.1).bind fun t415 => (if t415 = true then (if (bt402.1.length : Int) = (t395.length : Int) then (if bt406.2 = 0 then (if bt406.1 = true then (if bt408.2 = 6 then (if bt411.2 = 0 then ((spec_SameGame.f kj2 bt411.1 t395).bind fun t416 => (if t416 = true then ((impl_SameGame.f bt411.1 t395).bind fun t417 => (if t417 = true then ((impl_ValidGame.f kj2 t395).bind fun t418 => (laws_FnPlaces.j1 kj2 l0 l1 t395 bt402.1 (!t418))) else (laws_FnPlaces.j1 kj2 l0 l1 t395 bt402.1 true))) else (laws_FnPlaces.j1 kj2 l0 l1 t395 bt402.1 true))) else (laws_FnPlaces.j1 kj2 l0 l1 t395 bt402.1 true)) else (laws_FnPlaces.j1 kj2 l0 l1 t395 bt402.1 true)) else (laws_FnPlaces.j1 kj2 l0 l1 t395 bt402.1 true)) else (laws_FnPlaces.j1 kj2 l0 l1 t395 bt402.1 true)) else (laws_FnPlaces.j1 kj2 l0 l1 t395 bt402.1 true)) else (laws_FnPlaces.j1 kj2 l0 l1 t395 bt402.1 true))) else (laws_FnPlaces.j1 kj2 l0 l1 t395 bt402.1 true)) else (laws_FnPlaces.j1 kj2 l0 l1 t395 bt402.1 true))))))))) = some r := by rw [if_neg (show ¬ (false = true) by decide)] at H; exact H
          clear H
          have H := H1
          clear H1
          replace H := Option.bind_eq_some_iff.mp H
          obtain ⟨t395, A80, H⟩ := H
          replace H : ((impl_ValuesOf.f kj2 t395).bind fun bt398 => ((spec_ValuesOf.f kj2 t395).bind fun bt402 => ((impl_CheckValues.f kj2 t395 bt402.1).bind fun bt406 => ((impl_FirstBroken.f kj2 t395 bt402.1).bind fun bt408 => ((impl_GameText.f kj2 t395).bind fun t410 => ((impl_ReadGame.f kj2 t410).bind fun bt411 => (if bt398.2 = bt402.2 then (if bt398.2 = 0 then ((spec_SameNims.f kj2 bt398.1 bt402.1).bind fun t415 => (if t415 = true then (if (bt402.1.length : Int) = (t395.length : Int) then (if bt406.2 = 0 then (if bt406.1 = true then (if bt408.2 = 6 then (if bt411.2 = 0 then ((spec_SameGame.f kj2 bt411.1 t395).bind fun t416 => (if t416 = true then ((impl_SameGame.f bt411.1 t395).bind fun t417 => (if t417 = true then ((impl_ValidGame.f kj2 t395).bind fun t418 => (laws_FnPlaces.j1 kj2 l0 l1 t395 bt402.1 (!t418))) else (laws_FnPlaces.j1 kj2 l0 l1 t395 bt402.1 true))) else (laws_FnPlaces.j1 kj2 l0 l1 t395 bt402.1 true))) else (laws_FnPlaces.j1 kj2 l0 l1 t395 bt402.1 true)) else (laws_FnPlaces.j1 kj2 l0 l1 t395 bt402.1 true)) else (laws_FnPlaces.j1 kj2 l0 l1 t395 bt402.1 true)) else (laws_FnPlaces.j1 kj2 l0 l1 t395 bt402.1 true)) else (laws_FnPlaces.j1 kj2 l0 l1 t395 bt402.1 true)) else (laws_FnPlaces.j1 kj2 l0 l1 t395 bt402.1 true))) else (laws_FnPlaces.j1 kj2 l0 l1 t395 bt402.1 true)) else (laws_FnPlaces.j1 kj2 l0 l1 t395 bt402.1 true)))))))) = some r := H
          have A8 := Aside0.mk A80
          clear A80
          replace H := Option.bind_eq_some_iff.mp H
          obtain ⟨⟨t398, t399⟩, A90, H⟩ := H
          replace H : ((spec_ValuesOf.f kj2 t395).bind fun bt402 => ((impl_CheckValues.f kj2 t395 bt402.1).bind fun bt406 => ((impl_FirstBroken.f kj2 t395 bt402.1).bind fun bt408 => ((impl_GameText.f kj2 t395).bind fun t410 => ((impl_ReadGame.f kj2 t410).bind fun bt411 => (if t399 = bt402.2 then (if t399 = 0 then ((spec_SameNims.f kj2 t398 bt402.1).bind fun t415 => (if t415 = true then (if (bt402.1.length : Int) = (t395.length : Int) then (if bt406.2 = 0 then (if bt406.1 = true then (if bt408.2 = 6 then (if bt411.2 = 0 then ((spec_SameGame.f kj2 bt411.1 t395).bind fun t416 => (if t416 = true then ((impl_SameGame.f bt411.1 t395).bind fun t417 => (if t417 = true then ((impl_ValidGame.f kj2 t395).bind fun t418 => (laws_FnPlaces.j1 kj2 l0 l1 t395 bt402.1 (!t418))) else (laws_FnPlaces.j1 kj2 l0 l1 t395 bt402.1 true))) else (laws_FnPlaces.j1 kj2 l0 l1 t395 bt402.1 true))) else (laws_FnPlaces.j1 kj2 l0 l1 t395 bt402.1 true)) else (laws_FnPlaces.j1 kj2 l0 l1 t395 bt402.1 true)) else (laws_FnPlaces.j1 kj2 l0 l1 t395 bt402.1 true)) else (laws_FnPlaces.j1 kj2 l0 l1 t395 bt402.1 true)) else (laws_FnPlaces.j1 kj2 l0 l1 t395 bt402.1 true)) else (laws_FnPlaces.j1 kj2 l0 l1 t395 bt402.1 true))) else (laws_FnPlaces.j1 kj2 l0 l1 t395 bt402.1 true)) else (laws_FnPlaces.j1 kj2 l0 l1 t395 bt402.1 true))))))) = some r := H
          have A9 := Aside0.mk A90
          clear A90
          replace H := Option.bind_eq_some_iff.mp H
          obtain ⟨⟨t402, t403⟩, A100, H⟩ := H
          replace H : ((impl_CheckValues.f kj2 t395 t402).bind fun bt406 => ((impl_FirstBroken.f kj2 t395 t402).bind fun bt408 => ((impl_GameText.f kj2 t395).bind fun t410 => ((impl_ReadGame.f kj2 t410).bind fun bt411 => (if t399 = t403 then (if t399 = 0 then ((spec_SameNims.f kj2 t398 t402).bind fun t415 => (if t415 = true then (if (t402.length : Int) = (t395.length : Int) then (if bt406.2 = 0 then (if bt406.1 = true then (if bt408.2 = 6 then (if bt411.2 = 0 then ((spec_SameGame.f kj2 bt411.1 t395).bind fun t416 => (if t416 = true then ((impl_SameGame.f bt411.1 t395).bind fun t417 => (if t417 = true then ((impl_ValidGame.f kj2 t395).bind fun t418 => (laws_FnPlaces.j1 kj2 l0 l1 t395 t402 (!t418))) else (laws_FnPlaces.j1 kj2 l0 l1 t395 t402 true))) else (laws_FnPlaces.j1 kj2 l0 l1 t395 t402 true))) else (laws_FnPlaces.j1 kj2 l0 l1 t395 t402 true)) else (laws_FnPlaces.j1 kj2 l0 l1 t395 t402 true)) else (laws_FnPlaces.j1 kj2 l0 l1 t395 t402 true)) else (laws_FnPlaces.j1 kj2 l0 l1 t395 t402 true)) else (laws_FnPlaces.j1 kj2 l0 l1 t395 t402 true)) else (laws_FnPlaces.j1 kj2 l0 l1 t395 t402 true))) else (laws_FnPlaces.j1 kj2 l0 l1 t395 t402 true)) else (laws_FnPlaces.j1 kj2 l0 l1 t395 t402 true)))))) = some r := H
          have A10 := Aside0.mk A100
          clear A100
          replace H := Option.bind_eq_some_iff.mp H
          obtain ⟨⟨t406, t407⟩, A110, H⟩ := H
          replace H : ((impl_FirstBroken.f kj2 t395 t402).bind fun bt408 => ((impl_GameText.f kj2 t395).bind fun t410 => ((impl_ReadGame.f kj2 t410).bind fun bt411 => (if t399 = t403 then (if t399 = 0 then ((spec_SameNims.f kj2 t398 t402).bind fun t415 => (if t415 = true then (if (t402.length : Int) = (t395.length : Int) then (if t407 = 0 then (if t406 = true then (if bt408.2 = 6 then (if bt411.2 = 0 then ((spec_SameGame.f kj2 bt411.1 t395).bind fun t416 => (if t416 = true then ((impl_SameGame.f bt411.1 t395).bind fun t417 => (if t417 = true then ((impl_ValidGame.f kj2 t395).bind fun t418 => (laws_FnPlaces.j1 kj2 l0 l1 t395 t402 (!t418))) else (laws_FnPlaces.j1 kj2 l0 l1 t395 t402 true))) else (laws_FnPlaces.j1 kj2 l0 l1 t395 t402 true))) else (laws_FnPlaces.j1 kj2 l0 l1 t395 t402 true)) else (laws_FnPlaces.j1 kj2 l0 l1 t395 t402 true)) else (laws_FnPlaces.j1 kj2 l0 l1 t395 t402 true)) else (laws_FnPlaces.j1 kj2 l0 l1 t395 t402 true)) else (laws_FnPlaces.j1 kj2 l0 l1 t395 t402 true)) else (laws_FnPlaces.j1 kj2 l0 l1 t395 t402 true))) else (laws_FnPlaces.j1 kj2 l0 l1 t395 t402 true)) else (laws_FnPlaces.j1 kj2 l0 l1 t395 t402 true))))) = some r := H
          have A11 := Aside0.mk A110
          clear A110
          replace H := Option.bind_eq_some_iff.mp H
          obtain ⟨⟨t408, t409⟩, A120, H⟩ := H
          replace H : ((impl_GameText.f kj2 t395).bind fun t410 => ((impl_ReadGame.f kj2 t410).bind fun bt411 => (if t399 = t403 then (if t399 = 0 then ((spec_SameNims.f kj2 t398 t402).bind fun t415 => (if t415 = true then (if (t402.length : Int) = (t395.length : Int) then (if t407 = 0 then (if t406 = true then (if t409 = 6 then (if bt411.2 = 0 then ((spec_SameGame.f kj2 bt411.1 t395).bind fun t416 => (if t416 = true then ((impl_SameGame.f bt411.1 t395).bind fun t417 => (if t417 = true then ((impl_ValidGame.f kj2 t395).bind fun t418 => (laws_FnPlaces.j1 kj2 l0 l1 t395 t402 (!t418))) else (laws_FnPlaces.j1 kj2 l0 l1 t395 t402 true))) else (laws_FnPlaces.j1 kj2 l0 l1 t395 t402 true))) else (laws_FnPlaces.j1 kj2 l0 l1 t395 t402 true)) else (laws_FnPlaces.j1 kj2 l0 l1 t395 t402 true)) else (laws_FnPlaces.j1 kj2 l0 l1 t395 t402 true)) else (laws_FnPlaces.j1 kj2 l0 l1 t395 t402 true)) else (laws_FnPlaces.j1 kj2 l0 l1 t395 t402 true)) else (laws_FnPlaces.j1 kj2 l0 l1 t395 t402 true))) else (laws_FnPlaces.j1 kj2 l0 l1 t395 t402 true)) else (laws_FnPlaces.j1 kj2 l0 l1 t395 t402 true)))) = some r := H
          have A12 := Aside0.mk A120
          clear A120
          replace H := Option.bind_eq_some_iff.mp H
          obtain ⟨t410, A130, H⟩ := H
          replace H : ((impl_ReadGame.f kj2 t410).bind fun bt411 => (if t399 = t403 then (if t399 = 0 then ((spec_SameNims.f kj2 t398 t402).bind fun t415 => (if t415 = true then (if (t402.length : Int) = (t395.length : Int) then (if t407 = 0 then (if t406 = true then (if t409 = 6 then (if bt411.2 = 0 then ((spec_SameGame.f kj2 bt411.1 t395).bind fun t416 => (if t416 = true then ((impl_SameGame.f bt411.1 t395).bind fun t417 => (if t417 = true then ((impl_ValidGame.f kj2 t395).bind fun t418 => (laws_FnPlaces.j1 kj2 l0 l1 t395 t402 (!t418))) else (laws_FnPlaces.j1 kj2 l0 l1 t395 t402 true))) else (laws_FnPlaces.j1 kj2 l0 l1 t395 t402 true))) else (laws_FnPlaces.j1 kj2 l0 l1 t395 t402 true)) else (laws_FnPlaces.j1 kj2 l0 l1 t395 t402 true)) else (laws_FnPlaces.j1 kj2 l0 l1 t395 t402 true)) else (laws_FnPlaces.j1 kj2 l0 l1 t395 t402 true)) else (laws_FnPlaces.j1 kj2 l0 l1 t395 t402 true)) else (laws_FnPlaces.j1 kj2 l0 l1 t395 t402 true))) else (laws_FnPlaces.j1 kj2 l0 l1 t395 t402 true)) else (laws_FnPlaces.j1 kj2 l0 l1 t395 t402 true))) = some r := H
          have A13 := Aside0.mk A130
          clear A130
          replace H := Option.bind_eq_some_iff.mp H
          obtain ⟨⟨t411, t412⟩, A140, H⟩ := H
          replace H : (if t399 = t403 then (if t399 = 0 then ((spec_SameNims.f kj2 t398 t402).bind fun t415 => (if t415 = true then (if (t402.length : Int) = (t395.length : Int) then (if t407 = 0 then (if t406 = true then (if t409 = 6 then (if t412 = 0 then ((spec_SameGame.f kj2 t411 t395).bind fun t416 => (if t416 = true then ((impl_SameGame.f t411 t395).bind fun t417 => (if t417 = true then ((impl_ValidGame.f kj2 t395).bind fun t418 => (laws_FnPlaces.j1 kj2 l0 l1 t395 t402 (!t418))) else (laws_FnPlaces.j1 kj2 l0 l1 t395 t402 true))) else (laws_FnPlaces.j1 kj2 l0 l1 t395 t402 true))) else (laws_FnPlaces.j1 kj2 l0 l1 t395 t402 true)) else (laws_FnPlaces.j1 kj2 l0 l1 t395 t402 true)) else (laws_FnPlaces.j1 kj2 l0 l1 t395 t402 true)) else (laws_FnPlaces.j1 kj2 l0 l1 t395 t402 true)) else (laws_FnPlaces.j1 kj2 l0 l1 t395 t402 true)) else (laws_FnPlaces.j1 kj2 l0 l1 t395 t402 true))) else (laws_FnPlaces.j1 kj2 l0 l1 t395 t402 true)) else (laws_FnPlaces.j1 kj2 l0 l1 t395 t402 true)) = some r := H
          have A14 := Aside0.mk A140
          clear A140
          have HC15 := Aside0.mk H
          clear H
          go_upto_region 9 with (first | ((with_reducible refine gate_callee (f := 5) rfl ?_); refine goesL_ (some 48) rfl rfl Tryz.func5 (by kernel_rfl) rfl #[.slice A0 l0.length c0] rfl (by (try simp only [List.map_toArray, List.map_cons, List.map_nil]); first | done | rfl | (simp only [List.length_drop, List.length_take]; rfl)) ?_; (with_reducible refine (spec_P6Game.calls kj2 _ _ l0 t395 _ ?side1 ?side2 A8.out).mono ?_); (case side1 => repeat (first | exact (Kd.C_below HR0.out HB.out) | (with_reducible refine Kd.C_alloc ?_ _) | (with_reducible refine Kd.C_drewN ?_ _) | (with_reducible refine Kd.C_drew ?_))); (case side2 => exact HC0.out); rintro e w16 ⟨v396, rfl, ho0, hb⟩; refine ⟨_, rfl, ?_⟩; have n0_ := Aside0.mk (Kd.S_lower ho0 (below_size (by repeat (first | (with_reducible first | exact HB.out | apply below_alloc | apply pw_below_drewN | apply below_drew1) | exact HB.out)))); have n1_ := Aside0.mk (below_step (by repeat (first | (with_reducible first | exact HB.out | apply below_alloc | apply pw_below_drewN | apply below_drew1) | exact HB.out)) hb); clear HB; have HO397 := n0_; have HB := n1_; clear n0_ n1_; (try clear hb); (try clear hb2); (try clear hk); (try clear hi); (try clear ho0); obtain ⟨Ao17, co17, eo17⟩ := Kd.S_slice HO397.out; subst eo17) | ((with_reducible refine gate_callee (f := 6) rfl ?_); refine goesL_ (some 51) rfl rfl Tryz.func6 (by kernel_rfl) rfl #[.slice Ao17 t395.length co17] rfl (by (try simp only [List.map_toArray, List.map_cons, List.map_nil]); first | done | rfl | (simp only [List.length_drop, List.length_take]; rfl)) ?_; (with_reducible refine (impl_ValuesOf.calls kj2 _ _ t395 t398 t399 _ ?side1 ?side2 A9.out).mono ?_); (case side1 => repeat (first | exact (Kd.S_reads' HO397.out).2.2 | (with_reducible refine Kd.C_alloc ?_ _) | (with_reducible refine Kd.C_drewN ?_ _) | (with_reducible refine Kd.C_drew ?_))); (case side2 => exact (Kd.S_reads' HO397.out).2.1); rintro e w18 ⟨v400, rfl, ho0, hb⟩; refine ⟨_, rfl, ?_⟩; have n0_ := Aside0.mk (Kd.S_below (by (with_reducible repeat (first | apply Kd.S_alloc | apply Kd.S_drewN | apply Kd.S_drew)); exact HO397.out) hb); have n1_ := Aside0.mk (Kd.R_lower ho0 (below_size (by repeat (first | (with_reducible first | exact HB.out | apply below_alloc | apply pw_below_drewN | apply below_drew1) | exact HB.out)))); have n2_ := Aside0.mk (below_step (by repeat (first | (with_reducible first | exact HB.out | apply below_alloc | apply pw_below_drewN | apply below_drew1) | exact HB.out)) hb); clear HO397; clear HB; have HO397 := n0_; have HO401 := n1_; have HB := n2_; clear n0_ n1_ n2_; (try clear hb); (try clear hb2); (try clear hk); (try clear hi); (try clear ho0)) | ((with_reducible refine gate_callee (f := 7) rfl ?_); refine goesL_ (some 56) rfl rfl Tryz.func7 (by kernel_rfl) rfl #[.slice Ao17 t395.length co17] rfl (by (try simp only [List.map_toArray, List.map_cons, List.map_nil]); first | done | rfl | (simp only [List.length_drop, List.length_take]; rfl)) ?_; (with_reducible refine (spec_ValuesOf.calls kj2 _ _ t395 t402 t403 _ ?side1 ?side2 A10.out).mono ?_); (case side1 => repeat (first | exact (Kd.S_reads' HO397.out).2.2 | (with_reducible refine Kd.C_alloc ?_ _) | (with_reducible refine Kd.C_drewN ?_ _) | (with_reducible refine Kd.C_drew ?_))); (case side2 => exact (Kd.S_reads' HO397.out).2.1); rintro e w19 ⟨v404, rfl, ho0, hb⟩; refine ⟨_, rfl, ?_⟩; have n0_ := Aside0.mk (Kd.S_below (by (with_reducible repeat (first | apply Kd.S_alloc | apply Kd.S_drewN | apply Kd.S_drew)); exact HO397.out) hb); have n1_ := Aside0.mk (Kd.R_elder' (by (with_reducible repeat (first | apply Kd.R_alloc | apply Kd.R_drewN | apply Kd.R_drew)); exact HO401.out) (Kd.R_base ho0) hb); have n2_ := Aside0.mk (Kd.R_lower (Kd.R_new' ho0 (Kd.R_lt (by (with_reducible repeat (first | apply Kd.R_alloc | apply Kd.R_drewN | apply Kd.R_drew)); exact HO401.out))) (below_size (by repeat (first | (with_reducible first | exact HB.out | apply below_alloc | apply pw_below_drewN | apply below_drew1) | exact HB.out)))); have n3_ := Aside0.mk (below_step (by repeat (first | (with_reducible first | exact HB.out | apply below_alloc | apply pw_below_drewN | apply below_drew1) | exact HB.out)) hb); clear HO397; clear HO401; clear HB; have HO397 := n0_; have HO401 := n1_; have HO405 := n2_; have HB := n3_; clear n0_ n1_ n2_ n3_; (try clear hb); (try clear hb2); (try clear hk); (try clear hi); (try clear ho0); obtain ⟨Ao20, co20, eo20⟩ := Kd.R_slice HO405.out; subst eo20) | ((with_reducible refine gate_callee (f := 8) rfl ?_); refine goesL_ (some 62) rfl rfl Tryz.func8 (by kernel_rfl) rfl #[.slice Ao17 t395.length co17, .slice Ao20 t402.length co20] rfl (by (try simp only [List.map_toArray, List.map_cons, List.map_nil]); first | done | rfl | (simp only [List.length_drop, List.length_take]; rfl)) ?_; (with_reducible refine (impl_CheckValues.calls kj2 _ _ t395 _ _ t402 t406 t407 _ ?side1 ?side2 ?side3 ?side4 A11.out).mono ?_); (case side1 => repeat (first | exact (Kd.S_reads' HO397.out).2.2 | (with_reducible refine Kd.C_alloc ?_ _) | (with_reducible refine Kd.C_drewN ?_ _) | (with_reducible refine Kd.C_drew ?_))); (case side2 => exact (Kd.S_reads' HO397.out).2.1); (case side3 => repeat (first | exact (Kd.R_reads' HO405.out).2.2 | (with_reducible refine Kd.C_alloc ?_ _) | (with_reducible refine Kd.C_drewN ?_ _) | (with_reducible refine Kd.C_drew ?_))); (case side4 => exact (Kd.R_reads' HO405.out).2.1); rintro e w21 ⟨rfl, hb⟩; refine ⟨_, rfl, ?_⟩; have n0_ := Aside0.mk (Kd.S_below (by (with_reducible repeat (first | apply Kd.S_alloc | apply Kd.S_drewN | apply Kd.S_drew)); exact HO397.out) hb); have n1_ := Aside0.mk (Kd.R_below (by (with_reducible repeat (first | apply Kd.R_alloc | apply Kd.R_drewN | apply Kd.R_drew)); exact HO401.out) hb); have n2_ := Aside0.mk (Kd.R_below (by (with_reducible repeat (first | apply Kd.R_alloc | apply Kd.R_drewN | apply Kd.R_drew)); exact HO405.out) hb); have n3_ := Aside0.mk (below_step (by repeat (first | (with_reducible first | exact HB.out | apply below_alloc | apply pw_below_drewN | apply below_drew1) | exact HB.out)) hb); clear HO397; clear HO401; clear HO405; clear HB; have HO397 := n0_; have HO401 := n1_; have HO405 := n2_; have HB := n3_; clear n0_ n1_ n2_ n3_; (try clear hb); (try clear hb2); (try clear hk); (try clear hi)) | ((with_reducible refine gate_callee (f := 9) rfl ?_); refine goesL_ (some 68) rfl rfl Tryz.func9 (by kernel_rfl) rfl #[.slice Ao17 t395.length co17, .slice Ao20 t402.length co20] rfl (by (try simp only [List.map_toArray, List.map_cons, List.map_nil]); first | done | rfl | (simp only [List.length_drop, List.length_take]; rfl)) ?_; (with_reducible refine (impl_FirstBroken.calls kj2 _ _ t395 _ _ t402 t408 t409 _ ?side1 ?side2 ?side3 ?side4 A12.out).mono ?_); (case side1 => repeat (first | exact (Kd.S_reads' HO397.out).2.2 | (with_reducible refine Kd.C_alloc ?_ _) | (with_reducible refine Kd.C_drewN ?_ _) | (with_reducible refine Kd.C_drew ?_))); (case side2 => exact (Kd.S_reads' HO397.out).2.1); (case side3 => repeat (first | exact (Kd.R_reads' HO405.out).2.2 | (with_reducible refine Kd.C_alloc ?_ _) | (with_reducible refine Kd.C_drewN ?_ _) | (with_reducible refine Kd.C_drew ?_))); (case side4 => exact (Kd.R_reads' HO405.out).2.1); rintro e w22 ⟨rfl, hb⟩; refine ⟨_, rfl, ?_⟩; have n0_ := Aside0.mk (Kd.S_below (by (with_reducible repeat (first | apply Kd.S_alloc | apply Kd.S_drewN | apply Kd.S_drew)); exact HO397.out) hb); have n1_ := Aside0.mk (Kd.R_below (by (with_reducible repeat (first | apply Kd.R_alloc | apply Kd.R_drewN | apply Kd.R_drew)); exact HO401.out) hb); have n2_ := Aside0.mk (Kd.R_below (by (with_reducible repeat (first | apply Kd.R_alloc | apply Kd.R_drewN | apply Kd.R_drew)); exact HO405.out) hb); have n3_ := Aside0.mk (below_step (by repeat (first | (with_reducible first | exact HB.out | apply below_alloc | apply pw_below_drewN | apply below_drew1) | exact HB.out)) hb); clear HO397; clear HO401; clear HO405; clear HB; have HO397 := n0_; have HO401 := n1_; have HO405 := n2_; have HB := n3_; clear n0_ n1_ n2_ n3_; (try clear hb); (try clear hb2); (try clear hk); (try clear hi)) | ((with_reducible refine gate_callee (f := 11) rfl ?_); refine goesL_ (some 73) rfl rfl Tryz.func11 (by kernel_rfl) rfl #[.slice Ao17 t395.length co17] rfl (by (try simp only [List.map_toArray, List.map_cons, List.map_nil]); first | done | rfl | (simp only [List.length_drop, List.length_take]; rfl)) ?_; (with_reducible refine (impl_GameText.calls kj2 _ _ t395 t410 _ ?side1 ?side2 (by repeat (first | exact HLaidPow_.out | exact LaidPow.below HLaidPow_.out HB.out | exact LaidPow.below HLaidPow_.out (Drawn0.below ⟨⟨_, rfl⟩⟩) | apply LaidPow.drew)) A13.out).mono ?_); (case side1 => repeat (first | exact (Kd.S_reads' HO397.out).2.2 | (with_reducible refine Kd.C_alloc ?_ _) | (with_reducible refine Kd.C_drewN ?_ _) | (with_reducible refine Kd.C_drew ?_))); (case side2 => exact (Kd.S_reads' HO397.out).2.1); rintro e w23 ⟨rfl, hb⟩; refine ⟨_, rfl, ?_⟩; have n0_ := Aside0.mk (Kd.S_below (by (with_reducible repeat (first | apply Kd.S_alloc | apply Kd.S_drewN | apply Kd.S_drew)); exact HO397.out) hb); have n1_ := Aside0.mk (Kd.R_below (by (with_reducible repeat (first | apply Kd.R_alloc | apply Kd.R_drewN | apply Kd.R_drew)); exact HO401.out) hb); have n2_ := Aside0.mk (Kd.R_below (by (with_reducible repeat (first | apply Kd.R_alloc | apply Kd.R_drewN | apply Kd.R_drew)); exact HO405.out) hb); have n3_ := Aside0.mk (below_step (by repeat (first | (with_reducible first | exact HB.out | apply below_alloc | apply pw_below_drewN | apply below_drew1) | exact HB.out)) hb); clear HO397; clear HO401; clear HO405; clear HB; have HO397 := n0_; have HO401 := n1_; have HO405 := n2_; have HB := n3_; clear n0_ n1_ n2_ n3_; (try clear hb); (try clear hb2); (try clear hk); (try clear hi)) | ((with_reducible refine gate_callee (f := 10) rfl ?_); refine goesL_ (some 74) rfl rfl Tryz.func10 (by kernel_rfl) rfl #[.string t410] rfl (by (try simp only [List.map_toArray, List.map_cons, List.map_nil]); first | done | rfl | (simp only [List.length_drop, List.length_take]; rfl)) ?_; (with_reducible refine (impl_ReadGame.calls kj2 t410 t411 t412 _ (by repeat (first | exact HLaidErr_.out | exact LaidErr.below HLaidErr_.out HB.out | exact LaidErr.below HLaidErr_.out (Drawn0.below ⟨⟨_, rfl⟩⟩) | apply LaidErr.drew)) (by repeat (first | exact HLaidMax_.out | exact LaidMax.below HLaidMax_.out HB.out | exact LaidMax.below HLaidMax_.out (Drawn0.below ⟨⟨_, rfl⟩⟩) | apply LaidMax.drew)) (by repeat (first | exact HLaidPow_.out | exact LaidPow.below HLaidPow_.out HB.out | exact LaidPow.below HLaidPow_.out (Drawn0.below ⟨⟨_, rfl⟩⟩) | apply LaidPow.drew)) A14.out).mono ?_); rintro e w24 ⟨v413, rfl, ho0, hb⟩; refine ⟨_, rfl, ?_⟩; have n0_ := Aside0.mk (Kd.S_elder' (by (with_reducible repeat (first | apply Kd.S_alloc | apply Kd.S_drewN | apply Kd.S_drew)); exact HO397.out) (Kd.S_base ho0) hb); have n1_ := Aside0.mk (Kd.R_below (by (with_reducible repeat (first | apply Kd.R_alloc | apply Kd.R_drewN | apply Kd.R_drew)); exact HO401.out) hb); have n2_ := Aside0.mk (Kd.R_below (by (with_reducible repeat (first | apply Kd.R_alloc | apply Kd.R_drewN | apply Kd.R_drew)); exact HO405.out) hb); have n3_ := Aside0.mk (Kd.S_lower (Kd.S_new' ho0 (Kd.S_lt (by (with_reducible repeat (first | apply Kd.S_alloc | apply Kd.S_drewN | apply Kd.S_drew)); exact HO397.out))) (below_size (by repeat (first | (with_reducible first | exact HB.out | apply below_alloc | apply pw_below_drewN | apply below_drew1) | exact HB.out)))); have n4_ := Aside0.mk (below_step (by repeat (first | (with_reducible first | exact HB.out | apply below_alloc | apply pw_below_drewN | apply below_drew1) | exact HB.out)) hb); clear HO397; clear HO401; clear HO405; clear HB; have HO397 := n0_; have HO401 := n1_; have HO405 := n2_; have HO414 := n3_; have HB := n4_; clear n0_ n1_ n2_ n3_ n4_; (try clear hb); (try clear hb2); (try clear hk); (try clear hi); (try clear ho0)))
          (try simp only [Act.put, List.setIfInBounds_toArray, List.set_cons_zero, List.set_cons_succ])
          go_cut [129] (fun v129 wc => ∃ (kq : Nat) (x129_14 : Bool), v129 = .bool x129_14 ∧ Aside0 (laws_FnPlaces.j1 kq l0 l1 t395 t402 x129_14 = some r) ∧ Aside0 (kq ≤ kj2) ∧ Aside0 (Kd.S (Kd.slice 66 (Kd.int .i8)) 55 wc w.heap.size (fun _ => True) (.slice Ao17 t395.length co17) t395) ∧ Aside0 (Kd.R (Kd.int .u16) 42 wc w.heap.size (fun _ => True) (.slice Ao20 t402.length co20) t402) ∧ Aside0 (Below w.heap.size w wc))
          case first =>
            as_aux_lemma =>
              have H := HC15.out
              clear HC15
              by_cases c25 : t399 = t403
              · rw [if_pos c25] at H
                have c25b0 : (t399 == t403) = true := beq_iff_eq.mpr c25
                have c25b1 : (t399 != t403) = false := bne_eq_false_iff_eq.mpr c25
                clear c25
                (first | rw [c25b0] | (simp only [i64_w, i32_w]; rw [c25b0]) | skip)
                by_cases c26 : t399 = 0
                · rw [if_pos c26] at H
                  have c26b0 : (t399 == 0) = true := beq_iff_eq.mpr c26
                  have c26b1 : (t399 != 0) = false := bne_eq_false_iff_eq.mpr c26
                  clear c26
                  replace H := Option.bind_eq_some_iff.mp H
                  obtain ⟨t415, A270, H⟩ := H
                  replace H : (if t415 = true then (if (t402.length : Int) = (t395.length : Int) then (if t407 = 0 then (if t406 = true then (if t409 = 6 then (if t412 = 0 then ((spec_SameGame.f kj2 t411 t395).bind fun t416 => (if t416 = true then ((impl_SameGame.f t411 t395).bind fun t417 => (if t417 = true then ((impl_ValidGame.f kj2 t395).bind fun t418 => (laws_FnPlaces.j1 kj2 l0 l1 t395 t402 (!t418))) else (laws_FnPlaces.j1 kj2 l0 l1 t395 t402 true))) else (laws_FnPlaces.j1 kj2 l0 l1 t395 t402 true))) else (laws_FnPlaces.j1 kj2 l0 l1 t395 t402 true)) else (laws_FnPlaces.j1 kj2 l0 l1 t395 t402 true)) else (laws_FnPlaces.j1 kj2 l0 l1 t395 t402 true)) else (laws_FnPlaces.j1 kj2 l0 l1 t395 t402 true)) else (laws_FnPlaces.j1 kj2 l0 l1 t395 t402 true)) else (laws_FnPlaces.j1 kj2 l0 l1 t395 t402 true)) = some r := H
                  have A27 := Aside0.mk A270
                  clear A270
                  by_cases c28 : t415 = true
                  · subst c28
                    have H1 : (if (t402.length : Int) = (t395.length : Int) then (if t407 = 0 then (if t406 = true then (if t409 = 6 then (if t412 = 0 then ((spec_SameGame.f kj2 t411 t395).bind fun t416 => (if t416 = true then ((impl_SameGame.f t411 t395).bind fun t417 => (if t417 = true then ((impl_ValidGame.f kj2 t395).bind fun t418 => (laws_FnPlaces.j1 kj2 l0 l1 t395 t402 (!t418))) else (laws_FnPlaces.j1 kj2 l0 l1 t395 t402 true))) else (laws_FnPlaces.j1 kj2 l0 l1 t395 t402 true))) else (laws_FnPlaces.j1 kj2 l0 l1 t395 t402 true)) else (laws_FnPlaces.j1 kj2 l0 l1 t395 t402 true)) else (laws_FnPlaces.j1 kj2 l0 l1 t395 t402 true)) else (laws_FnPlaces.j1 kj2 l0 l1 t395 t402 true)) else (laws_FnPlaces.j1 kj2 l0 l1 t395 t402 true)) = some r := by rw [if_pos rfl] at H; exact H
                    clear H
                    have H := H1
                    clear H1
                    by_cases c29 : (t402.length : Int) = (t395.length : Int)
                    · rw [if_pos c29] at H
                      have c29b0 : ((t402.length : Int) == (t395.length : Int)) = true := beq_iff_eq.mpr c29
                      have c29b1 : ((t402.length : Int) != (t395.length : Int)) = false := bne_eq_false_iff_eq.mpr c29
                      have c29b2 : (t402.length == t395.length) = true := by first | simpa using c29 | (simp at c29 ⊢; omega)
                      clear c29
                      by_cases c30 : t407 = 0
                      · rw [if_pos c30] at H
                        have c30b0 : (t407 == 0) = true := beq_iff_eq.mpr c30
                        have c30b1 : (t407 != 0) = false := bne_eq_false_iff_eq.mpr c30
                        clear c30
                        by_cases c31 : t406 = true
                        · subst c31
                          have H1 : (if t409 = 6 then (if t412 = 0 then ((spec_SameGame.f kj2 t411 t395).bind fun t416 => (if t416 = true then ((impl_SameGame.f t411 t395).bind fun t417 => (if t417 = true then ((impl_ValidGame.f kj2 t395).bind fun t418 => (laws_FnPlaces.j1 kj2 l0 l1 t395 t402 (!t418))) else (laws_FnPlaces.j1 kj2 l0 l1 t395 t402 true))) else (laws_FnPlaces.j1 kj2 l0 l1 t395 t402 true))) else (laws_FnPlaces.j1 kj2 l0 l1 t395 t402 true)) else (laws_FnPlaces.j1 kj2 l0 l1 t395 t402 true)) = some r := by rw [if_pos rfl] at H; exact H
                          clear H
                          have H := H1
                          clear H1
                          by_cases c32 : t409 = 6
                          · rw [if_pos c32] at H
                            have c32b0 : (t409 == 6) = true := beq_iff_eq.mpr c32
                            have c32b1 : (t409 != 6) = false := bne_eq_false_iff_eq.mpr c32
                            clear c32
                            by_cases c33 : t412 = 0
                            · rw [if_pos c33] at H
                              have c33b0 : (t412 == 0) = true := beq_iff_eq.mpr c33
                              have c33b1 : (t412 != 0) = false := bne_eq_false_iff_eq.mpr c33
                              clear c33
                              replace H := Option.bind_eq_some_iff.mp H
                              obtain ⟨t416, A340, H⟩ := H
                              replace H : (if t416 = true then ((impl_SameGame.f t411 t395).bind fun t417 => (if t417 = true then ((impl_ValidGame.f kj2 t395).bind fun t418 => (laws_FnPlaces.j1 kj2 l0 l1 t395 t402 (!t418))) else (laws_FnPlaces.j1 kj2 l0 l1 t395 t402 true))) else (laws_FnPlaces.j1 kj2 l0 l1 t395 t402 true)) = some r := H
                              have A34 := Aside0.mk A340
                              clear A340
                              by_cases c35 : t416 = true
                              · subst c35
                                have H1 : ((impl_SameGame.f t411 t395).bind fun t417 => (if t417 = true then ((impl_ValidGame.f kj2 t395).bind fun t418 => (laws_FnPlaces.j1 kj2 l0 l1 t395 t402 (!t418))) else (laws_FnPlaces.j1 kj2 l0 l1 t395 t402 true))) = some r := by rw [if_pos rfl] at H; exact H
                                clear H
                                have H := H1
                                clear H1
                                replace H := Option.bind_eq_some_iff.mp H
                                obtain ⟨t417, A360, H⟩ := H
                                replace H : (if t417 = true then ((impl_ValidGame.f kj2 t395).bind fun t418 => (laws_FnPlaces.j1 kj2 l0 l1 t395 t402 (!t418))) else (laws_FnPlaces.j1 kj2 l0 l1 t395 t402 true)) = some r := H
                                have A36 := Aside0.mk A360
                                clear A360
                                by_cases c37 : t417 = true
                                · subst c37
                                  have H1 : ((impl_ValidGame.f kj2 t395).bind fun t418 => (laws_FnPlaces.j1 kj2 l0 l1 t395 t402 (!t418))) = some r := by rw [if_pos rfl] at H; exact H
                                  clear H
                                  have H := H1
                                  clear H1
                                  replace H := Option.bind_eq_some_iff.mp H
                                  obtain ⟨t418, A380, H⟩ := H
                                  replace H : (laws_FnPlaces.j1 kj2 l0 l1 t395 t402 (!t418)) = some r := H
                                  have A38 := Aside0.mk A380
                                  clear A380
                                  have H' := Aside0.mk H
                                  clear H
                                  obtain ⟨Ao39, co39, eo39⟩ := Kd.R_slice HO401.out
                                  subst eo39
                                  go_wp2_with (first | (go_at_call 12; (with_reducible refine (spec_SameNims.calls kj2 _ _ t398 _ _ t402 true _ ?side1 ?side2 ?side3 ?side4 A27.out).mono ?_); (case side1 => repeat (first | exact (Kd.R_reads' HO401.out).2.2 | (with_reducible refine Kd.C_alloc ?_ _) | (with_reducible refine Kd.C_drewN ?_ _) | (with_reducible refine Kd.C_drew ?_))); (case side2 => exact (Kd.R_reads' HO401.out).2.1); (case side3 => repeat (first | exact (Kd.R_reads' HO405.out).2.2 | (with_reducible refine Kd.C_alloc ?_ _) | (with_reducible refine Kd.C_drewN ?_ _) | (with_reducible refine Kd.C_drew ?_))); (case side4 => exact (Kd.R_reads' HO405.out).2.1); rintro e w' ⟨rfl, ⟨nd, rfl⟩⟩; obtain ⟨Ao40, co40, eo40⟩ := Kd.S_slice HO414.out; subst eo40) | (go_at_call 13; (with_reducible refine (spec_SameGame.calls kj2 _ _ t411 _ _ t395 true _ ?side1 ?side2 ?side3 ?side4 A34.out).mono ?_); (case side1 => repeat (first | exact (Kd.S_reads' HO414.out).2.2 | (with_reducible refine Kd.C_alloc ?_ _) | (with_reducible refine Kd.C_drewN ?_ _) | (with_reducible refine Kd.C_drew ?_))); (case side2 => exact (Kd.S_reads' HO414.out).2.1); (case side3 => repeat (first | exact (Kd.S_reads' HO397.out).2.2 | (with_reducible refine Kd.C_alloc ?_ _) | (with_reducible refine Kd.C_drewN ?_ _) | (with_reducible refine Kd.C_drew ?_))); (case side4 => exact (Kd.S_reads' HO397.out).2.1); rintro e w' ⟨rfl, ⟨nd, rfl⟩⟩) | (go_at_call 14; (with_reducible refine (impl_SameGame.calls _ _ t411 _ _ t395 true _ ?side1 ?side2 ?side3 ?side4 A36.out).mono ?_); (case side1 => repeat (first | exact (Kd.S_reads' HO414.out).2.2 | (with_reducible refine Kd.C_alloc ?_ _) | (with_reducible refine Kd.C_drewN ?_ _) | (with_reducible refine Kd.C_drew ?_))); (case side2 => exact (Kd.S_reads' HO414.out).2.1); (case side3 => repeat (first | exact (Kd.S_reads' HO397.out).2.2 | (with_reducible refine Kd.C_alloc ?_ _) | (with_reducible refine Kd.C_drewN ?_ _) | (with_reducible refine Kd.C_drew ?_))); (case side4 => exact (Kd.S_reads' HO397.out).2.1); rintro e w' ⟨rfl, ⟨nd, rfl⟩⟩) | (go_at_call 15; (with_reducible refine (impl_ValidGame.calls kj2 _ _ t395 t418 _ ?side1 ?side2 A38.out).mono ?_); (case side1 => repeat (first | exact (Kd.S_reads' HO397.out).2.2 | (with_reducible refine Kd.C_alloc ?_ _) | (with_reducible refine Kd.C_drewN ?_ _) | (with_reducible refine Kd.C_drew ?_))); (case side2 => exact (Kd.S_reads' HO397.out).2.1); rintro e w' ⟨rfl, ⟨nd, rfl⟩⟩))
                                  go_meet
                                  case rel => exact ⟨_, (!t418), (by first | rfl | (simp; done) | (simp [*]; done)), H', ⟨by have := HJ2.out; first | omega | exact Nat.le_refl _⟩, ⟨by (with_reducible repeat (first | apply Kd.S_alloc | apply Kd.S_drewN | apply Kd.S_drew)); exact Kd.S_mono HO397.out (fun _ hk => trivial)⟩, ⟨by (with_reducible repeat (first | apply Kd.R_alloc | apply Kd.R_drewN | apply Kd.R_drew)); exact Kd.R_mono HO405.out (fun _ hk => trivial)⟩, ⟨by repeat (first | (with_reducible first | exact HB.out | apply below_alloc | apply pw_below_drewN | apply below_drew1) | exact HB.out)⟩⟩
                                · replace c37 := Bool.eq_false_iff.mpr c37
                                  subst c37
                                  have H1 : (laws_FnPlaces.j1 kj2 l0 l1 t395 t402 true) = some r := by rw [if_neg (show ¬ (false = true) by decide)] at H; exact H
                                  clear H
                                  have H := H1
                                  clear H1
                                  exact absurd (H.trans (congrArg some hr_)) (laws_FnPlaces.j1_dead _ _ _ _ _)
                              · replace c35 := Bool.eq_false_iff.mpr c35
                                subst c35
                                have H1 : (laws_FnPlaces.j1 kj2 l0 l1 t395 t402 true) = some r := by rw [if_neg (show ¬ (false = true) by decide)] at H; exact H
                                clear H
                                have H := H1
                                clear H1
                                exact absurd (H.trans (congrArg some hr_)) (laws_FnPlaces.j1_dead _ _ _ _ _)
                            · rw [if_neg c33] at H
                              have c33b0 : (t412 == 0) = false := beq_eq_false_iff_ne.mpr c33
                              have c33b1 : (t412 != 0) = true := bne_iff_ne.mpr c33
                              exact absurd (H.trans (congrArg some hr_)) (laws_FnPlaces.j1_dead _ _ _ _ _)
                          · rw [if_neg c32] at H
                            have c32b0 : (t409 == 6) = false := beq_eq_false_iff_ne.mpr c32
                            have c32b1 : (t409 != 6) = true := bne_iff_ne.mpr c32
                            exact absurd (H.trans (congrArg some hr_)) (laws_FnPlaces.j1_dead _ _ _ _ _)
                        · replace c31 := Bool.eq_false_iff.mpr c31
                          subst c31
                          have H1 : (laws_FnPlaces.j1 kj2 l0 l1 t395 t402 true) = some r := by rw [if_neg (show ¬ (false = true) by decide)] at H; exact H
                          clear H
                          have H := H1
                          clear H1
                          exact absurd (H.trans (congrArg some hr_)) (laws_FnPlaces.j1_dead _ _ _ _ _)
                      · rw [if_neg c30] at H
                        have c30b0 : (t407 == 0) = false := beq_eq_false_iff_ne.mpr c30
                        have c30b1 : (t407 != 0) = true := bne_iff_ne.mpr c30
                        exact absurd (H.trans (congrArg some hr_)) (laws_FnPlaces.j1_dead _ _ _ _ _)
                    · rw [if_neg c29] at H
                      have c29b0 : ((t402.length : Int) == (t395.length : Int)) = false := beq_eq_false_iff_ne.mpr c29
                      have c29b1 : ((t402.length : Int) != (t395.length : Int)) = true := bne_iff_ne.mpr c29
                      have c29b2 : (t402.length == t395.length) = false := by first | simpa using c29 | (simp at c29 ⊢; omega)
                      exact absurd (H.trans (congrArg some hr_)) (laws_FnPlaces.j1_dead _ _ _ _ _)
                  · replace c28 := Bool.eq_false_iff.mpr c28
                    subst c28
                    have H1 : (laws_FnPlaces.j1 kj2 l0 l1 t395 t402 true) = some r := by rw [if_neg (show ¬ (false = true) by decide)] at H; exact H
                    clear H
                    have H := H1
                    clear H1
                    exact absurd (H.trans (congrArg some hr_)) (laws_FnPlaces.j1_dead _ _ _ _ _)
                · rw [if_neg c26] at H
                  have c26b0 : (t399 == 0) = false := beq_eq_false_iff_ne.mpr c26
                  have c26b1 : (t399 != 0) = true := bne_iff_ne.mpr c26
                  exact absurd (H.trans (congrArg some hr_)) (laws_FnPlaces.j1_dead _ _ _ _ _)
              · rw [if_neg c25] at H
                have c25b0 : (t399 == t403) = false := beq_eq_false_iff_ne.mpr c25
                have c25b1 : (t399 != t403) = true := bne_iff_ne.mpr c25
                (first | rw [c25b0] | (simp only [i64_w, i32_w]; rw [c25b0]) | skip)
                exact absurd (H.trans (congrArg some hr_)) (laws_FnPlaces.j1_dead _ _ _ _ _)
          case rest =>
            as_aux_lemma =>
              clear HC15
              try clear c1
              try clear c2
              try clear p2
              try clear c3
              try clear c4
              try clear c5
              try clear c6
              try clear c7
              try clear c8
              try clear c9
              try clear c10
              try clear c11
              try clear c25
              try clear c25b0
              try clear c25b1
              try clear c26
              try clear c26b0
              try clear c26b1
              try clear c28
              try clear c29
              try clear c29b0
              try clear c29b1
              try clear c29b2
              try clear c30
              try clear c30b0
              try clear c30b1
              try clear c31
              try clear c32
              try clear c32b0
              try clear c32b1
              try clear c33
              try clear c33b0
              try clear c33b1
              try clear c35
              try clear c37
              try clear p2
              obtain ⟨kq, x129_14, rfl, HA, HJ14, HO_5, HO_8, HB⟩ := hcut
              cases kq with
              | zero => exact absurd HA.out (by simp [laws_FnPlaces.j1])
              | succ kj14 =>
                have H := HA.out
                clear HA
                simp only [laws_FnPlaces.j1] at H
                by_cases c51 : x129_14 = true
                · subst c51
                  have H1 : (some false) = some r := by rw [if_pos rfl] at H; exact H
                  clear H
                  have H := H1
                  clear H1
                  obtain rfl := Option.some.inj H
                  go_wp2
                  go_ret
                  exact ⟨by first | rfl | (simp [errW_none, errW_some] <;> rfl) | (simp [*, errW_none, errW_some] <;> rfl), by repeat (first | (with_reducible first | exact HB.out | apply below_alloc | apply pw_below_drewN | apply below_drew1) | exact HB.out)⟩
                · replace c51 := Bool.eq_false_iff.mpr c51
                  subst c51
                  have H1 : ((some (([] : List Int) : List Int)).bind fun y419 => (if y419.length + t402.length < 70368744177664 then ((some (y419 ++ t402 : List Int)).bind fun y422 => ((spec_P6Pick.f l1 (y422.length : Int)).bind fun t425 => (if 0 ≤ t425 then (if t425 < (y422.length : Int) then ((spec_P6Pick.f l0 3).bind fun t427 => ((some (y422.set (t425 : Int).toNat (IntKind.u16.wrap ((rd y422 t425) + (IntKind.u16.wrap (1 + (IntKind.u16.wrap (t427)))))) : List Int)).bind fun y428 => ((impl_CheckValues.f kj14 t395 y428).bind fun bt429 => ((impl_FirstBroken.f kj14 t395 y428).bind fun bt431 => (if bt429.2 = 0 then (if bt429.1 = true then (laws_FnPlaces.j2 kj14 l1 t395 t402 t425 true) else (if bt431.2 = 0 then (laws_FnPlaces.j2 kj14 l1 t395 t402 t425 (bt431.1 != t425)) else (laws_FnPlaces.j2 kj14 l1 t395 t402 t425 true))) else (laws_FnPlaces.j2 kj14 l1 t395 t402 t425 true)))))) else (none)) else (none)))) else (none))) = some r := by rw [if_neg (show ¬ (false = true) by decide)] at H; exact H
                  clear H
                  have H := H1
                  clear H1
                  obtain ⟨y419, hy419⟩ : ∃ y_ : List Int, y_ = (([] : List Int)) := ⟨_, rfl⟩
                  replace H : (if y419.length + t402.length < 70368744177664 then ((some (y419 ++ t402 : List Int)).bind fun y422 => ((spec_P6Pick.f l1 (y422.length : Int)).bind fun t425 => (if 0 ≤ t425 then (if t425 < (y422.length : Int) then ((spec_P6Pick.f l0 3).bind fun t427 => ((some (y422.set (t425 : Int).toNat (IntKind.u16.wrap ((rd y422 t425) + (IntKind.u16.wrap (1 + (IntKind.u16.wrap (t427)))))) : List Int)).bind fun y428 => ((impl_CheckValues.f kj14 t395 y428).bind fun bt429 => ((impl_FirstBroken.f kj14 t395 y428).bind fun bt431 => (if bt429.2 = 0 then (if bt429.1 = true then (laws_FnPlaces.j2 kj14 l1 t395 t402 t425 true) else (if bt431.2 = 0 then (laws_FnPlaces.j2 kj14 l1 t395 t402 t425 (bt431.1 != t425)) else (laws_FnPlaces.j2 kj14 l1 t395 t402 t425 true))) else (laws_FnPlaces.j2 kj14 l1 t395 t402 t425 true)))))) else (none)) else (none)))) else (none)) = some r := by first | (rw [hy419]; with_reducible exact H) | (have H2_ := (Option.bind_some _ _).symm.trans H; rw [hy419]; with_reducible exact H2_) | (have H2_ := (Option.bind_some _ _).symm.trans H; with_reducible exact H2_) | with_reducible exact H | (rw [hy419]; exact H) | exact H
                  have Ny419 := Aside0.mk hy419
                  clear hy419
                  by_cases c52 : y419.length + t402.length < 70368744177664
                  · rw [if_pos c52] at H
                    have LMc52 := Aside0.mk c52
                    clear c52
                    obtain ⟨y422, hy422⟩ : ∃ y_ : List Int, y_ = (y419 ++ t402) := ⟨_, rfl⟩
                    replace H : ((spec_P6Pick.f l1 (y422.length : Int)).bind fun t425 => (if 0 ≤ t425 then (if t425 < (y422.length : Int) then ((spec_P6Pick.f l0 3).bind fun t427 => ((some (y422.set (t425 : Int).toNat (IntKind.u16.wrap ((rd y422 t425) + (IntKind.u16.wrap (1 + (IntKind.u16.wrap (t427)))))) : List Int)).bind fun y428 => ((impl_CheckValues.f kj14 t395 y428).bind fun bt429 => ((impl_FirstBroken.f kj14 t395 y428).bind fun bt431 => (if bt429.2 = 0 then (if bt429.1 = true then (laws_FnPlaces.j2 kj14 l1 t395 t402 t425 true) else (if bt431.2 = 0 then (laws_FnPlaces.j2 kj14 l1 t395 t402 t425 (bt431.1 != t425)) else (laws_FnPlaces.j2 kj14 l1 t395 t402 t425 true))) else (laws_FnPlaces.j2 kj14 l1 t395 t402 t425 true)))))) else (none)) else (none))) = some r := by first | (rw [hy422]; with_reducible exact H) | (have H2_ := (Option.bind_some _ _).symm.trans H; rw [hy422]; with_reducible exact H2_) | (have H2_ := (Option.bind_some _ _).symm.trans H; with_reducible exact H2_) | with_reducible exact H | (rw [hy422]; exact H) | exact H
                    have Ny422 := Aside0.mk hy422
                    clear hy422
                    replace H := Option.bind_eq_some_iff.mp H
                    obtain ⟨t425, A530, H⟩ := H
                    replace H : (if 0 ≤ t425 then (if t425 < (y422.length : Int) then ((spec_P6Pick.f l0 3).bind fun t427 => ((some (y422.set (t425 : Int).toNat (IntKind.u16.wrap ((rd y422 t425) + (IntKind.u16.wrap (1 + (IntKind.u16.wrap (t427)))))) : List Int)).bind fun y428 => ((impl_CheckValues.f kj14 t395 y428).bind fun bt429 => ((impl_FirstBroken.f kj14 t395 y428).bind fun bt431 => (if bt429.2 = 0 then (if bt429.1 = true then (laws_FnPlaces.j2 kj14 l1 t395 t402 t425 true) else (if bt431.2 = 0 then (laws_FnPlaces.j2 kj14 l1 t395 t402 t425 (bt431.1 != t425)) else (laws_FnPlaces.j2 kj14 l1 t395 t402 t425 true))) else (laws_FnPlaces.j2 kj14 l1 t395 t402 t425 true)))))) else (none)) else (none)) = some r := H
                    have A53 := Aside0.mk A530
                    clear A530
                    by_cases c54 : 0 ≤ t425
                    · rw [if_pos c54] at H
                      have c54b0 : decide (0 ≤ t425) = true := decide_eq_true c54
                      clear c54
                      by_cases c55 : t425 < (y422.length : Int)
                      · rw [if_pos c55] at H
                        have c55b0 : decide (t425 < (y422.length : Int)) = true := decide_eq_true c55
                        clear c55
                        replace H := Option.bind_eq_some_iff.mp H
                        obtain ⟨t427, A560, H⟩ := H
                        replace H : ((some (y422.set (t425 : Int).toNat (IntKind.u16.wrap ((rd y422 t425) + (IntKind.u16.wrap (1 + (IntKind.u16.wrap (t427)))))) : List Int)).bind fun y428 => ((impl_CheckValues.f kj14 t395 y428).bind fun bt429 => ((impl_FirstBroken.f kj14 t395 y428).bind fun bt431 => (if bt429.2 = 0 then (if bt429.1 = true then (laws_FnPlaces.j2 kj14 l1 t395 t402 t425 true) else (if bt431.2 = 0 then (laws_FnPlaces.j2 kj14 l1 t395 t402 t425 (bt431.1 != t425)) else (laws_FnPlaces.j2 kj14 l1 t395 t402 t425 true))) else (laws_FnPlaces.j2 kj14 l1 t395 t402 t425 true))))) = some r := H
                        have A56 := Aside0.mk A560
                        clear A560
                        obtain ⟨y428, hy428⟩ : ∃ y_ : List Int, y_ = (y422.set (t425 : Int).toNat (IntKind.u16.wrap ((rd y422 t425) + (IntKind.u16.wrap (1 + (IntKind.u16.wrap (t427))))))) := ⟨_, rfl⟩
                        replace H : ((impl_CheckValues.f kj14 t395 y428).bind fun bt429 => ((impl_FirstBroken.f kj14 t395 y428).bind fun bt431 => (if bt429.2 = 0 then (if bt429.1 = true then (laws_FnPlaces.j2 kj14 l1 t395 t402 t425 true) else (if bt431.2 = 0 then (laws_FnPlaces.j2 kj14 l1 t395 t402 t425 (bt431.1 != t425)) else (laws_FnPlaces.j2 kj14 l1 t395 t402 t425 true))) else (laws_FnPlaces.j2 kj14 l1 t395 t402 t425 true)))) = some r := by first | (rw [hy428]; with_reducible exact H) | (have H2_ := (Option.bind_some _ _).symm.trans H; rw [hy428]; with_reducible exact H2_) | (have H2_ := (Option.bind_some _ _).symm.trans H; with_reducible exact H2_) | with_reducible exact H | (rw [hy428]; exact H) | exact H
                        have Ny428 := Aside0.mk hy428
                        clear hy428
                        replace H := Option.bind_eq_some_iff.mp H
                        obtain ⟨⟨t429, t430⟩, A580, H⟩ := H
                        replace H : ((impl_FirstBroken.f kj14 t395 y428).bind fun bt431 => (if t430 = 0 then (if t429 = true then (laws_FnPlaces.j2 kj14 l1 t395 t402 t425 true) else (if bt431.2 = 0 then (laws_FnPlaces.j2 kj14 l1 t395 t402 t425 (bt431.1 != t425)) else (laws_FnPlaces.j2 kj14 l1 t395 t402 t425 true))) else (laws_FnPlaces.j2 kj14 l1 t395 t402 t425 true))) = some r := H
                        have A58 := Aside0.mk A580
                        clear A580
                        replace H := Option.bind_eq_some_iff.mp H
                        obtain ⟨⟨t431, t432⟩, A590, H⟩ := H
                        replace H : (if t430 = 0 then (if t429 = true then (laws_FnPlaces.j2 kj14 l1 t395 t402 t425 true) else (if t432 = 0 then (laws_FnPlaces.j2 kj14 l1 t395 t402 t425 (t431 != t425)) else (laws_FnPlaces.j2 kj14 l1 t395 t402 t425 true))) else (laws_FnPlaces.j2 kj14 l1 t395 t402 t425 true)) = some r := H
                        have A59 := Aside0.mk A590
                        clear A590
                        have HC60 := Aside0.mk H
                        clear H
                        try go_wp2_with (first | ((with_reducible refine gate_dst (N := 130) rfl ?_); (try (refine gate_guard (by rfl) ?_; dsimp only)); refine Kd.R_lit (Kd.int .u16) _ 42 ?hg (N := 130) ?hd (xs := ([] : List Int)) (inner := []) (ok := fun _ => True) (okp := fun _ => True) ?hr ?hp (fun _ hk => hk) trivial (Below.refl _ _) (Nat.le_refl _) (by simp) ?_; (case hd => rfl); (case hg => rfl); (case hr => first | (go_simp; done) | (go_simp; rfl)); (case hp => exact (Reps.none _ _)); intro v420 w61 ho62 hb hg_ hnew_; clear hg_ hnew_; (first | rw [← Ny419.out] at ho62 | (simp only [Int.reduceToNat] at ho62; rw [← Ny419.out] at ho62)); have n0_ := Aside0.mk (Kd.S_below (by (with_reducible repeat (first | apply Kd.S_alloc | apply Kd.S_drewN | apply Kd.S_drew)); exact HO_5.out) hb); have n1_ := Aside0.mk (Kd.R_elder' (by (with_reducible repeat (first | apply Kd.R_alloc | apply Kd.R_drewN | apply Kd.R_drew)); exact HO_8.out) (Kd.R_base ho62) hb); have n2_ := Aside0.mk (Kd.R_lower (Kd.R_new' ho62 (Kd.R_lt (by (with_reducible repeat (first | apply Kd.R_alloc | apply Kd.R_drewN | apply Kd.R_drew)); exact HO_8.out))) (below_size (by repeat (first | (with_reducible first | exact HB.out | apply below_alloc | apply pw_below_drewN | apply below_drew1) | exact HB.out)))); have n3_ := Aside0.mk (below_step (by repeat (first | (with_reducible first | exact HB.out | apply below_alloc | apply pw_below_drewN | apply below_drew1) | exact HB.out)) hb); clear HO_5; clear HO_8; clear HB; have HO_5 := n0_; have HO_8 := n1_; have HO421 := n2_; have HB := n3_; clear n0_ n1_ n2_ n3_; clear hb ho62) | ((with_reducible refine gate_builtin (b := .append) (xs := #[.tmp 130, .tmp 131]) rfl ?_); (try (refine gate_guard (by rfl) ?_; dsimp only)); at_builtin; refine Kd.R_append_rows (Kd.int .u16) (w0 := w) w.heap.size rfl (.tmp 130) (.tmp 131) 27 42 (.int .u16 0) 2 rfl Tryz.underlying27 info42 rfl (by decide) (by omega) v420 y419 t402 _ _ _ (fun k_ => some k_ ≠ (.slice Ao20 t402.length co20 : Value).ownBlock) (fun _ => False) rfl rfl ?aO ?aR (fun _ _ h => h) (fun _ h => h.elim) ?aF ?aB ?aS ?aL ?_; (case aR => repeat (first | exact (Kd.R_reads' HO_8.out).2.2 | (with_reducible refine Kd.C_alloc ?_ _) | (with_reducible refine Kd.C_drewN ?_ _) | (with_reducible refine Kd.C_drew ?_))); (case aB => exact (by repeat (first | (with_reducible first | exact HB.out | apply below_alloc | apply pw_below_drewN | apply below_drew1) | exact HB.out))); (case aF => exact (fun k_ hk => Kd.fresh' (Kd.R_lt (by (with_reducible repeat (first | apply Kd.R_alloc | apply Kd.R_drewN | apply Kd.R_drew)); exact HO_8.out)) k_ hk)); (case aO => exact (by (with_reducible repeat (first | apply Kd.R_alloc | apply Kd.R_drewN | apply Kd.R_drew)); exact Kd.R_mono HO421.out (fun _ hk => hk.2))); (case aS => exact (below_size (by repeat (first | (with_reducible first | exact HB.out | apply below_alloc | apply pw_below_drewN | apply below_drew1) | exact HB.out)))); (case aL => have := LMc52.out; omega); intro v423 w63 ho hb hg hat; rw [← Ny422.out] at ho; have n0_ := Aside0.mk (Kd.S_over' (by (with_reducible repeat (first | apply Kd.S_alloc | apply Kd.S_drewN | apply Kd.S_drew)); exact HO_5.out) (Kd.R_typed (by (with_reducible repeat (first | apply Kd.R_alloc | apply Kd.R_drewN | apply Kd.R_drew)); exact HO421.out)) (by decide) hg); have n1_ := Aside0.mk (Kd.R_after (ok := (fun _ => True)) (by (with_reducible repeat (first | apply Kd.R_alloc | apply Kd.R_drewN | apply Kd.R_drew)); exact HO_8.out) hg hat); have n2_ := Aside0.mk (hb); have n3_ := Aside0.mk (ho); clear HO_5; clear HO_8; clear HB; clear HO421; have HO_5 := n0_; have HO_8 := n1_; have HB := n2_; have HO424 := n3_; clear n0_ n1_ n2_ n3_; clear ho hb hg hat; obtain ⟨Ao64, co64, eo64⟩ := Kd.R_slice HO424.out; subst eo64) | ((with_reducible refine gate_callee (f := 16) rfl ?_); refine goesL_ (some 136) rfl rfl Tryz.func16 (by kernel_rfl) rfl #[.slice A1 l1.length c1, .int .i64 (y422.length : Int)] rfl (by (try simp only [List.map_toArray, List.map_cons, List.map_nil]); first | done | rfl | (simp only [List.length_drop, List.length_take]; rfl)) ?_; (with_reducible refine (spec_P6Pick.calls _ _ l1 (y422.length : Int) t425 _ ?side1 ?side2 A53.out).mono ?_); (case side1 => repeat (first | exact (Kd.C_below HR1.out HB.out) | (with_reducible refine Kd.C_alloc ?_ _) | (with_reducible refine Kd.C_drewN ?_ _) | (with_reducible refine Kd.C_drew ?_))); (case side2 => exact HC1.out); rintro e w65 ⟨rfl, hb⟩; refine ⟨_, rfl, ?_⟩; have n0_ := Aside0.mk (Kd.S_below (by (with_reducible repeat (first | apply Kd.S_alloc | apply Kd.S_drewN | apply Kd.S_drew)); exact HO_5.out) hb); have n1_ := Aside0.mk (Kd.R_below (by (with_reducible repeat (first | apply Kd.R_alloc | apply Kd.R_drewN | apply Kd.R_drew)); exact HO_8.out) hb); have n2_ := Aside0.mk (Kd.R_below (by (with_reducible repeat (first | apply Kd.R_alloc | apply Kd.R_drewN | apply Kd.R_drew)); exact HO424.out) hb); have n3_ := Aside0.mk (below_step (by repeat (first | (with_reducible first | exact HB.out | apply below_alloc | apply pw_below_drewN | apply below_drew1) | exact HB.out)) hb); clear HO_5; clear HO_8; clear HO424; clear HB; have HO_5 := n0_; have HO_8 := n1_; have HO424 := n2_; have HB := n3_; clear n0_ n1_ n2_ n3_; (try clear hb); (try clear hb2); (try clear hk); (try clear hi)))
                        have n0_ := Aside0.mk (Kd.S_drew HO_5.out)
                        have n1_ := Aside0.mk (Kd.R_drew HO_8.out)
                        have n2_ := Aside0.mk (Kd.R_drew HO424.out)
                        have n3_ := Aside0.mk (below_drew1 HB.out)
                        clear HO_5
                        clear HO_8
                        clear HO424
                        clear HB
                        have HO_5 := n0_
                        have HO_8 := n1_
                        have HO424 := n2_
                        have HB := n3_
                        clear n0_ n1_ n2_ n3_
                        have p426 : 0 ≤ (t425 : Int) := of_decide_eq_true (by first | (with_reducible assumption) | assumption)
                        have q426 : t425 < (y422.length : Int) := of_decide_eq_true (by first | (with_reducible assumption) | assumption)
                        obtain ⟨ad426, e426, hx426_0⟩ := Kd.at_int (Kd.R_reads' HO424.out).2.2 t425 p426 q426
                        cases e426
                        replace p426 := eq_true p426
                        replace q426 := eq_true q426
                        refine start_ (n := 11) (S := fun w' => w'.cell? (ad426.add (t425).toNat) = some (.int .u16 (rd y422 t425))) (ds := [10]) #[false, false, false, false, false, false, false, false, false, false, false] (by kernel_rfl) rfl rfl (hx426_0) (fun hHeld => ?_); refine with_tabW laws_FnPlaces.tab13 laws_FnPlaces.bits13 (fun HT_ HW_ => ?_)
                        generalize w65.drew = w66 at HO_5 HO_8 HO424 HB hx426_0 hHeld ⊢
                        refine pure_ (i := 0) (N := some 137) (v := ?_) (a' := ?_) #[true, false, false, false, false, false, false, false, false, false, false] rfl rfl (any_of HT_.out (by kernel_rfl)) (fun _ _ _ h => h) (Or.inl ⟨by rfl, ?_⟩) ?_ ?_
                        rotate_left
                        · intro w'
                          go_simp
                          with_reducible rfl
                        rotate_left
                        · simp only [Act.put, List.setIfInBounds_toArray, List.set_cons_zero, List.set_cons_succ, i64_w, i32_w]
                          rfl
                        refine pure_ (i := 1) (N := some 138) (v := ?_) (a' := ?_) #[true, true, false, false, false, false, false, false, false, false, false] rfl rfl (any_of HT_.out (by kernel_rfl)) (fun _ _ _ h => h) (Or.inl ⟨by rfl, ?_⟩) ?_ ?_
                        rotate_left
                        · intro w'
                          go_simp
                          with_reducible rfl
                        rotate_left
                        · simp only [Act.put, List.setIfInBounds_toArray, List.set_cons_zero, List.set_cons_succ, i64_w, i32_w]
                          rfl
                        refine pure_ (i := 2) (N := some 139) (v := ?_) (a' := ?_) #[true, true, true, false, false, false, false, false, false, false, false] rfl rfl (any_of HT_.out (by kernel_rfl)) (fun _ _ _ h => h) (Or.inl ⟨by rfl, ?_⟩) ?_ ?_
                        rotate_left
                        · intro w'
                          go_simp
                          with_reducible rfl
                        rotate_left
                        · simp only [Act.put, List.setIfInBounds_toArray, List.set_cons_zero, List.set_cons_succ, i64_w, i32_w]
                          rfl
                        refine pure_ (i := 4) (N := some 141) (v := ?_) (a' := ?_) #[true, true, true, false, true, false, false, false, false, false, false] rfl rfl (any_of HT_.out (by kernel_rfl)) (fun _ _ _ h => h) (Or.inl ⟨by rfl, ?_⟩) ?_ ?_
                        rotate_left
                        · intro w'
                          go_simp
                          with_reducible rfl
                        rotate_left
                        · simp only [Act.put, List.setIfInBounds_toArray, List.set_cons_zero, List.set_cons_succ, i64_w, i32_w]
                          rfl
                        refine take_ (i := 3) (N := some 140) (v := ?_) (a' := ?_) #[true, true, true, true, true, false, false, false, false, false, false] rfl rfl (take_ofW HT_.out HW_.out (by kernel_rfl)) (fun _ _ _ h => h) (Or.inl ⟨by rfl, ?_⟩) hHeld ?_ ?_
                        rotate_left
                        · intro w' s0
                          go_simp
                          with_reducible rfl
                        rotate_left
                        · simp only [Act.put, List.setIfInBounds_toArray, List.set_cons_zero, List.set_cons_succ, i64_w, i32_w]
                          rfl
                        refine one_ (i := 5) (N := some 142) #[true, true, true, true, true, true, false, false, false, false, false] rfl rfl (one_of HT_.out (by kernel_rfl)) (by decide) (fun K hK => ?_)
                        refine goes_ Tryz.func16 (by kernel_rfl) rfl #[.slice A0 l0.length c0, .int .i64 3] (by rfl) rfl rfl (by (try simp only [List.map_toArray, List.map_cons, List.map_nil]); first | done | rfl | (simp only [List.length_drop, List.length_take]; rfl)) ?_
                        with_reducible refine (spec_P6Pick.calls _ _ l0 3 t427 _ ?side1 ?side2 A56.out).mono ?_
                        (case side1 => repeat (first | exact (Kd.C_below HR0.out HB.out) | (with_reducible refine Kd.C_alloc ?_ _) | (with_reducible refine Kd.C_drewN ?_ _) | (with_reducible refine Kd.C_drew ?_)))
                        (case side2 => exact HC0.out)
                        rintro e w67 ⟨rfl, hb⟩
                        have HS0_ := (hb.cell (World.block_lt_of_cell? _ _ (hHeld))).trans (hHeld)
                        refine ⟨_, rfl, ?_⟩
                        have n0_ := Aside0.mk (Kd.S_below (by (with_reducible repeat (first | apply Kd.S_alloc | apply Kd.S_drewN | apply Kd.S_drew)); exact HO_5.out) hb)
                        have n1_ := Aside0.mk (Kd.R_below (by (with_reducible repeat (first | apply Kd.R_alloc | apply Kd.R_drewN | apply Kd.R_drew)); exact HO_8.out) hb)
                        have n2_ := Aside0.mk (Kd.R_below (by (with_reducible repeat (first | apply Kd.R_alloc | apply Kd.R_drewN | apply Kd.R_drew)); exact HO424.out) hb)
                        have n3_ := Aside0.mk (below_step (by repeat (first | (with_reducible first | exact HB.out | apply below_alloc | apply pw_below_drewN | apply below_drew1) | exact HB.out)) hb)
                        clear HO_5
                        clear HO_8
                        clear HO424
                        clear HB
                        have HO_5 := n0_
                        have HO_8 := n1_
                        have HO424 := n2_
                        have HB := n3_
                        clear n0_ n1_ n2_ n3_
                        (try clear hb)
                        (try clear hb2)
                        (try clear hk)
                        (try clear hi)
                        have p57 : 0 ≤ (t425 : Int) := of_decide_eq_true (by first | (with_reducible assumption) | assumption)
                        have q57 : (t425 : Int) < ((y422.length : Int) : Int) := of_decide_eq_true (by first | (with_reducible assumption) | assumption)
                        obtain ⟨go57, co57, eo57, gb57, gl57, cl57, HG57⟩ := Kd.R_form HO424.out (by omega)
                        (first | cases eo57 | (injection eo57 with ea_ en_ ec_; (first | subst ea_ | (injection ea_ with ea_; subst ea_)); subst ec_; clear en_))
                        have GB57 := Aside0.mk gb57
                        have GG57 := Aside0.mk HG57
                        clear gb57 gl57 HG57
                        (first | simp only [add_plain] at hx426_0 | skip)
                        obtain ⟨hx57_0, hf57_0⟩ := Kd.R_celln 0 HO424.out (t425 : Int) p57 q57
                        replace p57 := eq_true p57
                        replace q57 := eq_true q57
                        have HP68 := Kd.R_putn HO424.out (t425 : Int) (IntKind.u16.wrap ((rd y422 t425) + (IntKind.u16.wrap (1 + (IntKind.u16.wrap (t427))))))
                        rw [← Ny428.out] at HP68
                        have HQ68 := Aside0.mk HP68
                        clear HP68
                        refine hK.out _ _ (HS0_) (fun hHeld => ?_)
                        clear hK K
                        refine norm_ (a' := ?_) ?_ ?_
                        rotate_left
                        · show Act.put _ (some 142) _ = _
                          simp only [Act.put, List.setIfInBounds_toArray, List.set_cons_zero, List.set_cons_succ, i64_w, i32_w]
                          rfl
                        refine pure_ (i := 6) (N := some 143) (v := ?_) (a' := ?_) #[true, true, true, true, true, true, true, false, false, false, false] rfl rfl (any_of HT_.out (by kernel_rfl)) (fun _ _ _ h => h) (Or.inl ⟨by rfl, ?_⟩) ?_ ?_
                        rotate_left
                        · intro w'
                          go_simp
                          with_reducible rfl
                        rotate_left
                        · simp only [Act.put, List.setIfInBounds_toArray, List.set_cons_zero, List.set_cons_succ, i64_w, i32_w]
                          rfl
                        refine pure_ (i := 7) (N := some 144) (v := ?_) (a' := ?_) #[true, true, true, true, true, true, true, true, false, false, false] rfl rfl (any_of HT_.out (by kernel_rfl)) (fun _ _ _ h => h) (Or.inl ⟨by rfl, ?_⟩) ?_ ?_
                        rotate_left
                        · intro w'
                          go_simp
                          with_reducible rfl
                        rotate_left
                        · simp only [Act.put, List.setIfInBounds_toArray, List.set_cons_zero, List.set_cons_succ, i64_w, i32_w]
                          rfl
                        refine pure_ (i := 8) (N := some 145) (v := ?_) (a' := ?_) #[true, true, true, true, true, true, true, true, true, false, false] rfl rfl (any_of HT_.out (by kernel_rfl)) (fun _ _ _ h => h) (Or.inl ⟨by rfl, ?_⟩) ?_ ?_
                        rotate_left
                        · intro w'
                          go_simp
                          with_reducible rfl
                        rotate_left
                        · simp only [Act.put, List.setIfInBounds_toArray, List.set_cons_zero, List.set_cons_succ, i64_w, i32_w]
                          rfl
                        refine pure_ (i := 9) (N := some 146) (v := ?_) (a' := ?_) #[true, true, true, true, true, true, true, true, true, true, false] rfl rfl (any_of HT_.out (by kernel_rfl)) (fun _ _ _ h => h) (Or.inl ⟨by rfl, ?_⟩) ?_ ?_
                        rotate_left
                        · intro w'
                          go_simp
                          with_reducible rfl
                        rotate_left
                        · simp only [Act.put, List.setIfInBounds_toArray, List.set_cons_zero, List.set_cons_succ, i64_w, i32_w]
                          rfl
                        refine last_ (i := 10) (N := none) #[true, true, true, true, true, true, true, true, true, true, true] rfl rfl (one_of HT_.out (by kernel_rfl)) (by decide) (fun K hK => ?_)
                        refine skip_ (w1 := ?_) (by rfl) rfl ?_ ?_
                        rotate_left
                        · go_simp
                          rfl
                        refine hK.out _ _ ?_
                        clear hK K
                        refine done_ (done_of HT_.out (by kernel_rfl)) ?_
                        go_upto_region 16 with (first | ((with_reducible refine gate_callee (f := 8) rfl ?_); refine goesL_ (some 150) rfl rfl Tryz.func8 (by kernel_rfl) rfl #[.slice Ao17 t395.length co17, .slice (some ⟨go57, 0, none⟩) y428.length co64] rfl (by (try simp only [List.map_toArray, List.map_cons, List.map_nil]); first | done | (rw [show y428.length = y422.length from (Kd.R_reads' HQ68.out).1.symm] <;> rfl) | rfl | (simp only [List.length_drop, List.length_take]; rfl)) ?_; (with_reducible refine (impl_CheckValues.calls kj14 _ _ t395 _ _ y428 t429 t430 _ ?side1 ?side2 ?side3 ?side4 A58.out).mono ?_); (case side1 => refine (Kd.S_reads' (e := 55) (base := w.heap.size) (ok := fun k_ => True) (n := t395.length) (c := co17) ?_).2.2; exact (by (with_reducible repeat (first | apply Kd.S_alloc | apply Kd.S_drewN | apply Kd.S_drew)); exact (Kd.S_mono (Kd.S_far (p := ⟨go57, (t425 : Int).toNat, none⟩) (Kd.S_types HO_5.out GG57.out (by decide)) (fun _ hk => hk.2) (.int .u16 (IntKind.u16.wrap ((rd y422 t425) + (IntKind.u16.wrap (1 + (IntKind.u16.wrap (t427)))))))) (fun _ h_ => h_.1)))); (case side2 => exact (Kd.S_reads' HO_5.out).2.1); (case side3 => refine (Kd.R_reads' (e := 42) (base := w.heap.size) (ok := fun k_ => some k_ ≠ (.slice Ao20 t402.length co20 : Value).ownBlock) (n := y422.length) (c := co64) ?_).2.2; exact (by (with_reducible repeat (first | apply Kd.R_alloc | apply Kd.R_drewN | apply Kd.R_drew)); exact HQ68.out)); (case side4 => rw [show y428.length = y422.length from (Kd.R_reads' HQ68.out).1.symm]; exact (Kd.R_reads' HO424.out).2.1); rintro e w69 ⟨rfl, hb⟩; refine ⟨_, rfl, ?_⟩; have n0_ := Aside0.mk (Kd.S_below (by (with_reducible repeat (first | apply Kd.S_alloc | apply Kd.S_drewN | apply Kd.S_drew)); exact (Kd.S_mono (Kd.S_far (p := ⟨go57, (t425 : Int).toNat, none⟩) (Kd.S_types HO_5.out GG57.out (by decide)) (fun _ hk => hk.2) (.int .u16 (IntKind.u16.wrap ((rd y422 t425) + (IntKind.u16.wrap (1 + (IntKind.u16.wrap (t427)))))))) (fun _ h_ => h_.1))) hb); have n1_ := Aside0.mk (Kd.R_below (by (with_reducible repeat (first | apply Kd.R_alloc | apply Kd.R_drewN | apply Kd.R_drew)); exact (Kd.R_mono (Kd.R_far (p := ⟨go57, (t425 : Int).toNat, none⟩) (Kd.R_mono HO_8.out (fun k_ hk => (⟨hk, fun e_ => hk.2 (by rw [e_]; rfl)⟩ : _ ∧ k_ ≠ go57))) (fun _ hk => hk.2) (.int .u16 (IntKind.u16.wrap ((rd y422 t425) + (IntKind.u16.wrap (1 + (IntKind.u16.wrap (t427)))))))) (fun _ h_ => h_.1))) hb); have n2_ := Aside0.mk (Kd.R_below (by (with_reducible repeat (first | apply Kd.R_alloc | apply Kd.R_drewN | apply Kd.R_drew)); exact HQ68.out) hb); have n3_ := Aside0.mk (below_step (by repeat (first | (with_reducible first | exact HB.out | apply below_alloc | apply pw_below_drewN | apply below_drew1 | refine below_set ?_ GB57.out) | exact HB.out)) hb); clear HO_5; clear HO_8; clear HO424; clear HB; have HO_5 := n0_; have HO_8 := n1_; have HO424 := n2_; have HB := n3_; clear n0_ n1_ n2_ n3_; (try clear hb); (try clear hb2); (try clear hk); (try clear hi)) | ((with_reducible refine gate_callee (f := 9) rfl ?_); refine goesL_ (some 156) rfl rfl Tryz.func9 (by kernel_rfl) rfl #[.slice Ao17 t395.length co17, .slice (some ⟨go57, 0, none⟩) y428.length co64] rfl (by (try simp only [List.map_toArray, List.map_cons, List.map_nil]); first | done | (rw [show y428.length = y422.length from (Kd.R_reads' HO424.out).1.symm] <;> rfl) | rfl | (simp only [List.length_drop, List.length_take]; rfl)) ?_; (with_reducible refine (impl_FirstBroken.calls kj14 _ _ t395 _ _ y428 t431 t432 _ ?side1 ?side2 ?side3 ?side4 A59.out).mono ?_); (case side1 => repeat (first | exact (Kd.S_reads' HO_5.out).2.2 | (with_reducible refine Kd.C_alloc ?_ _) | (with_reducible refine Kd.C_drewN ?_ _) | (with_reducible refine Kd.C_drew ?_))); (case side2 => exact (Kd.S_reads' HO_5.out).2.1); (case side3 => repeat (first | exact (Kd.R_reads' HO424.out).2.2 | (with_reducible refine Kd.C_alloc ?_ _) | (with_reducible refine Kd.C_drewN ?_ _) | (with_reducible refine Kd.C_drew ?_))); (case side4 => rw [show y428.length = y422.length from (Kd.R_reads' HO424.out).1.symm]; exact (Kd.R_reads' HO424.out).2.1); rintro e w70 ⟨rfl, hb⟩; refine ⟨_, rfl, ?_⟩; have n0_ := Aside0.mk (Kd.S_below (by (with_reducible repeat (first | apply Kd.S_alloc | apply Kd.S_drewN | apply Kd.S_drew)); exact HO_5.out) hb); have n1_ := Aside0.mk (Kd.R_below (by (with_reducible repeat (first | apply Kd.R_alloc | apply Kd.R_drewN | apply Kd.R_drew)); exact HO_8.out) hb); have n2_ := Aside0.mk (Kd.R_below (by (with_reducible repeat (first | apply Kd.R_alloc | apply Kd.R_drewN | apply Kd.R_drew)); exact HO424.out) hb); have n3_ := Aside0.mk (below_step (by repeat (first | (with_reducible first | exact HB.out | apply below_alloc | apply pw_below_drewN | apply below_drew1) | exact HB.out)) hb); clear HO_5; clear HO_8; clear HO424; clear HB; have HO_5 := n0_; have HO_8 := n1_; have HO424 := n2_; have HB := n3_; clear n0_ n1_ n2_ n3_; (try clear hb); (try clear hb2); (try clear hk); (try clear hi)))
                        (try simp only [Act.put, List.setIfInBounds_toArray, List.set_cons_zero, List.set_cons_succ])
                        go_cut [172] (fun v172 wc => ∃ (kq : Nat) (x172_59 : Bool), v172 = .bool x172_59 ∧ Aside0 (laws_FnPlaces.j2 kq l1 t395 t402 t425 x172_59 = some r) ∧ Aside0 (kq ≤ kj14) ∧ Aside0 (Kd.S (Kd.slice 66 (Kd.int .i8)) 55 wc w.heap.size (fun _ => True) (.slice Ao17 t395.length co17) t395) ∧ Aside0 (Kd.R (Kd.int .u16) 42 wc w.heap.size (fun _ => True) (.slice Ao20 t402.length co20) t402) ∧ Aside0 (Below w.heap.size w wc))
                        case first =>
                          as_aux_lemma =>
                            have H := HC60.out
                            clear HC60
                            by_cases c71 : t430 = 0
                            · rw [if_pos c71] at H
                              have c71b0 : (t430 == 0) = true := beq_iff_eq.mpr c71
                              have c71b1 : (t430 != 0) = false := bne_eq_false_iff_eq.mpr c71
                              clear c71
                              (first | rw [c71b0] | (simp only [i64_w, i32_w]; rw [c71b0]) | skip)
                              by_cases c72 : t429 = true
                              · subst c72
                                have H1 : (laws_FnPlaces.j2 kj14 l1 t395 t402 t425 true) = some r := by rw [if_pos rfl] at H; exact H
                                clear H
                                have H := H1
                                clear H1
                                exact absurd (H.trans (congrArg some hr_)) (laws_FnPlaces.j2_dead _ _ _ _ _)
                              · replace c72 := Bool.eq_false_iff.mpr c72
                                subst c72
                                have H1 : (if t432 = 0 then (laws_FnPlaces.j2 kj14 l1 t395 t402 t425 (t431 != t425)) else (laws_FnPlaces.j2 kj14 l1 t395 t402 t425 true)) = some r := by rw [if_neg (show ¬ (false = true) by decide)] at H; exact H
                                clear H
                                have H := H1
                                clear H1
                                by_cases c73 : t432 = 0
                                · rw [if_pos c73] at H
                                  have c73b0 : (t432 == 0) = true := beq_iff_eq.mpr c73
                                  have c73b1 : (t432 != 0) = false := bne_eq_false_iff_eq.mpr c73
                                  clear c73
                                  have H' := Aside0.mk H
                                  clear H
                                  go_wp2
                                  go_meet
                                  case rel => exact ⟨_, ((t431 != t425)), (by first | rfl | (simp; done) | (simp [*]; done)), H', ⟨by have := HJ2.out; have := HJ14.out; first | omega | exact Nat.le_refl _⟩, ⟨by (with_reducible repeat (first | apply Kd.S_alloc | apply Kd.S_drewN | apply Kd.S_drew)); exact HO_5.out⟩, ⟨by (with_reducible repeat (first | apply Kd.R_alloc | apply Kd.R_drewN | apply Kd.R_drew)); exact Kd.R_mono HO_8.out (fun _ hk => trivial)⟩, ⟨by repeat (first | (with_reducible first | exact HB.out | apply below_alloc | apply pw_below_drewN | apply below_drew1) | exact HB.out)⟩⟩
                                · rw [if_neg c73] at H
                                  have c73b0 : (t432 == 0) = false := beq_eq_false_iff_ne.mpr c73
                                  have c73b1 : (t432 != 0) = true := bne_iff_ne.mpr c73
                                  exact absurd (H.trans (congrArg some hr_)) (laws_FnPlaces.j2_dead _ _ _ _ _)
                            · rw [if_neg c71] at H
                              have c71b0 : (t430 == 0) = false := beq_eq_false_iff_ne.mpr c71
                              have c71b1 : (t430 != 0) = true := bne_iff_ne.mpr c71
                              (first | rw [c71b0] | (simp only [i64_w, i32_w]; rw [c71b0]) | skip)
                              exact absurd (H.trans (congrArg some hr_)) (laws_FnPlaces.j2_dead _ _ _ _ _)
                        case rest =>
                          as_aux_lemma =>
                            clear HC60
                            try clear c1
                            try clear c2
                            try clear p2
                            try clear c3
                            try clear c4
                            try clear p4
                            try clear q4
                            try clear hx4
                            try clear c5
                            try clear p5
                            try clear q5
                            try clear hx5
                            try clear hf5
                            try clear c6
                            try clear c7
                            try clear c8
                            try clear c9
                            try clear c10
                            try clear c11
                            try clear c16
                            try clear c25
                            try clear c25b0
                            try clear c25b1
                            try clear c26
                            try clear c26b0
                            try clear c26b1
                            try clear c28
                            try clear c29
                            try clear c29b0
                            try clear c29b1
                            try clear c29b2
                            try clear c30
                            try clear c30b0
                            try clear c30b1
                            try clear c31
                            try clear c32
                            try clear c32b0
                            try clear c32b1
                            try clear c33
                            try clear c33b0
                            try clear c33b1
                            try clear c35
                            try clear c37
                            try clear p42
                            try clear q42
                            try clear hx42
                            try clear c51
                            try clear c52
                            try clear c54
                            try clear c54b0
                            try clear c55
                            try clear c55b0
                            try clear p57
                            try clear q57
                            try clear hx57
                            try clear hf57
                            try clear c71
                            try clear c71b0
                            try clear c71b1
                            try clear c72
                            try clear c73
                            try clear c73b0
                            try clear c73b1
                            try clear hx426_0
                            try clear hx57_0
                            try clear p2
                            try clear p426
                            try clear p57
                            try clear q426
                            try clear q57
                            obtain ⟨kq, x172_59, rfl, HA, HJ59, HO_5, HO_8, HB⟩ := hcut
                            cases kq with
                            | zero => exact absurd HA.out (by simp [laws_FnPlaces.j2])
                            | succ kj59 =>
                              have H := HA.out
                              clear HA
                              simp only [laws_FnPlaces.j2] at H
                              by_cases c74 : x172_59 = true
                              · subst c74
                                have H1 : (some false) = some r := by rw [if_pos rfl] at H; exact H
                                clear H
                                have H := H1
                                clear H1
                                obtain rfl := Option.some.inj H
                                go_wp2
                                go_ret
                                exact ⟨by first | rfl | (simp [errW_none, errW_some] <;> rfl) | (simp [*, errW_none, errW_some] <;> rfl), by repeat (first | (with_reducible first | exact HB.out | apply below_alloc | apply pw_below_drewN | apply below_drew1) | exact HB.out)⟩
                              · replace c74 := Bool.eq_false_iff.mpr c74
                                subst c74
                                have H1 : ((spec_P6Places.f kj59 l1 t395).bind fun t433 => ((impl_SumAt.f kj59 t395 t433).bind fun bt436 => (laws_FnPlaces.l0 kj59 t395 t402 t425 t433 bt436.1 bt436.2 0 0))) = some r := by rw [if_neg (show ¬ (false = true) by decide)] at H; exact H
                                clear H
                                have H := H1
                                clear H1
                                replace H := Option.bind_eq_some_iff.mp H
                                obtain ⟨t433, A750, H⟩ := H
                                replace H : ((impl_SumAt.f kj59 t395 t433).bind fun bt436 => (laws_FnPlaces.l0 kj59 t395 t402 t425 t433 bt436.1 bt436.2 0 0)) = some r := H
                                have A75 := Aside0.mk A750
                                clear A750
                                replace H := Option.bind_eq_some_iff.mp H
                                obtain ⟨⟨t436, t437⟩, A760, H⟩ := H
                                replace H : (laws_FnPlaces.l0 kj59 t395 t402 t425 t433 t436 t437 0 0) = some r := H
                                have A76 := Aside0.mk A760
                                clear A760
                                have H' := Aside0.mk H
                                clear H
                                go_wp2_with (first | ((with_reducible refine gate_callee (f := 17) rfl ?_); refine goesL_ (some 175) rfl rfl Tryz.func17 (by kernel_rfl) rfl #[.slice A1 l1.length c1, .slice Ao17 t395.length co17] rfl (by (try simp only [List.map_toArray, List.map_cons, List.map_nil]); first | done | rfl | (simp only [List.length_drop, List.length_take]; rfl)) ?_; (with_reducible refine (spec_P6Places.calls kj59 _ _ l1 _ _ t395 t433 _ ?side1 ?side2 ?side3 ?side4 A75.out).mono ?_); (case side1 => repeat (first | exact (Kd.C_below HR1.out HB.out) | (with_reducible refine Kd.C_alloc ?_ _) | (with_reducible refine Kd.C_drewN ?_ _) | (with_reducible refine Kd.C_drew ?_))); (case side2 => exact HC1.out); (case side3 => repeat (first | exact (Kd.S_reads' HO_5.out).2.2 | (with_reducible refine Kd.C_alloc ?_ _) | (with_reducible refine Kd.C_drewN ?_ _) | (with_reducible refine Kd.C_drew ?_))); (case side4 => exact (Kd.S_reads' HO_5.out).2.1); rintro e w77 ⟨v434, rfl, ho0, hb⟩; refine ⟨_, rfl, ?_⟩; have n0_ := Aside0.mk (Kd.S_below (by (with_reducible repeat (first | apply Kd.S_alloc | apply Kd.S_drewN | apply Kd.S_drew)); exact HO_5.out) hb); have n1_ := Aside0.mk (Kd.R_below (by (with_reducible repeat (first | apply Kd.R_alloc | apply Kd.R_drewN | apply Kd.R_drew)); exact HO_8.out) hb); have n2_ := Aside0.mk (Kd.R_lower ho0 (below_size (by repeat (first | (with_reducible first | exact HB.out | apply below_alloc | apply pw_below_drewN | apply below_drew1) | exact HB.out)))); have n3_ := Aside0.mk (below_step (by repeat (first | (with_reducible first | exact HB.out | apply below_alloc | apply pw_below_drewN | apply below_drew1) | exact HB.out)) hb); clear HO_5; clear HO_8; clear HB; have HO_5 := n0_; have HO_8 := n1_; have HO435 := n2_; have HB := n3_; clear n0_ n1_ n2_ n3_; (try clear hb); (try clear hb2); (try clear hk); (try clear hi); (try clear ho0); obtain ⟨Ao78, co78, eo78⟩ := Kd.R_slice HO435.out; subst eo78) | ((with_reducible refine gate_callee (f := 18) rfl ?_); refine goesL_ (some 179) rfl rfl Tryz.func18 (by kernel_rfl) rfl #[.slice Ao17 t395.length co17, .slice Ao78 t433.length co78] rfl (by (try simp only [List.map_toArray, List.map_cons, List.map_nil]); first | done | rfl | (simp only [List.length_drop, List.length_take]; rfl)) ?_; (with_reducible refine (impl_SumAt.calls kj59 _ _ t395 _ _ t433 t436 t437 _ ?side1 ?side2 ?side3 ?side4 A76.out).mono ?_); (case side1 => repeat (first | exact (Kd.S_reads' HO_5.out).2.2 | (with_reducible refine Kd.C_alloc ?_ _) | (with_reducible refine Kd.C_drewN ?_ _) | (with_reducible refine Kd.C_drew ?_))); (case side2 => exact (Kd.S_reads' HO_5.out).2.1); (case side3 => repeat (first | exact (Kd.R_reads' HO435.out).2.2 | (with_reducible refine Kd.C_alloc ?_ _) | (with_reducible refine Kd.C_drewN ?_ _) | (with_reducible refine Kd.C_drew ?_))); (case side4 => exact (Kd.R_reads' HO435.out).2.1); rintro e w79 ⟨rfl, hb⟩; refine ⟨_, rfl, ?_⟩; have n0_ := Aside0.mk (Kd.S_below (by (with_reducible repeat (first | apply Kd.S_alloc | apply Kd.S_drewN | apply Kd.S_drew)); exact HO_5.out) hb); have n1_ := Aside0.mk (Kd.R_below (by (with_reducible repeat (first | apply Kd.R_alloc | apply Kd.R_drewN | apply Kd.R_drew)); exact HO_8.out) hb); have n2_ := Aside0.mk (Kd.R_below (by (with_reducible repeat (first | apply Kd.R_alloc | apply Kd.R_drewN | apply Kd.R_drew)); exact HO435.out) hb); have n3_ := Aside0.mk (below_step (by repeat (first | (with_reducible first | exact HB.out | apply below_alloc | apply pw_below_drewN | apply below_drew1) | exact HB.out)) hb); clear HO_5; clear HO_8; clear HO435; clear HB; have HO_5 := n0_; have HO_8 := n1_; have HO435 := n2_; have HB := n3_; clear n0_ n1_ n2_ n3_; (try clear hb); (try clear hb2); (try clear hk); (try clear hi)))
                                go_loopg [25, 26] kj59 (fun kq v25 v26 w' => ∃ (x25_4 : Int) (x26_4 : Int), v25 = .int .u16 x25_4 ∧ v26 = .int .i64 x26_4 ∧ Aside0 (laws_FnPlaces.l0 kq t395 t402 t425 t433 t436 t437 x25_4 x26_4 = some r) ∧ Aside0 (kq ≤ kj59) ∧ Aside0 (Kd.S (Kd.slice 66 (Kd.int .i8)) 55 w' w.heap.size (fun _ => True) (.slice Ao17 t395.length co17) t395) ∧ Aside0 (Kd.R (Kd.int .u16) 42 w' w.heap.size (fun _ => True) (.slice Ao20 t402.length co20) t402) ∧ Aside0 (Kd.R (Kd.int .i64) 2 w' w.heap.size (fun _ => True) (.slice Ao78 t433.length co78) t433) ∧ Aside0 (Below w.heap.size w w'))
                                case atStart => exact ⟨(0), (0), (by first | rfl | (simp; done) | (simp [*]; done)), (by first | rfl | (simp; done) | (simp [*]; done)), H', ⟨Nat.le_refl _⟩, ⟨by (with_reducible repeat (first | apply Kd.S_alloc | apply Kd.S_drewN | apply Kd.S_drew)); exact HO_5.out⟩, ⟨by (with_reducible repeat (first | apply Kd.R_alloc | apply Kd.R_drewN | apply Kd.R_drew)); exact HO_8.out⟩, ⟨by (with_reducible repeat (first | apply Kd.R_alloc | apply Kd.R_drewN | apply Kd.R_drew)); exact HO435.out⟩, ⟨by repeat (first | (with_reducible first | exact HB.out | apply below_alloc | apply pw_below_drewN | apply below_drew1) | exact HB.out)⟩⟩
                                case round =>
                                  as_aux_lemma =>
                                    clear H'
                                    try clear c1
                                    try clear c2
                                    try clear p2
                                    try clear c3
                                    try clear c4
                                    try clear p4
                                    try clear q4
                                    try clear hx4
                                    try clear c5
                                    try clear p5
                                    try clear q5
                                    try clear hx5
                                    try clear hf5
                                    try clear c6
                                    try clear c7
                                    try clear c8
                                    try clear c9
                                    try clear c10
                                    try clear c11
                                    try clear c16
                                    try clear c17
                                    try clear c18
                                    try clear c25
                                    try clear c25b0
                                    try clear c25b1
                                    try clear c26
                                    try clear c26b0
                                    try clear c26b1
                                    try clear c28
                                    try clear c29
                                    try clear c29b0
                                    try clear c29b1
                                    try clear c29b2
                                    try clear c30
                                    try clear c30b0
                                    try clear c30b1
                                    try clear c31
                                    try clear c32
                                    try clear c32b0
                                    try clear c32b1
                                    try clear c33
                                    try clear c33b0
                                    try clear c33b1
                                    try clear c35
                                    try clear c37
                                    try clear p42
                                    try clear q42
                                    try clear hx42
                                    try clear c51
                                    try clear c52
                                    try clear c54
                                    try clear c54b0
                                    try clear c55
                                    try clear c55b0
                                    try clear p57
                                    try clear q57
                                    try clear hx57
                                    try clear hf57
                                    try clear c71
                                    try clear c71b0
                                    try clear c71b1
                                    try clear c72
                                    try clear c73
                                    try clear c73b0
                                    try clear c73b1
                                    try clear c74
                                    try clear hx426_0
                                    try clear hx57_0
                                    try clear p2
                                    try clear p4
                                    try clear p42
                                    try clear p426
                                    try clear p5
                                    try clear p57
                                    try clear q4
                                    try clear q42
                                    try clear q426
                                    try clear q5
                                    try clear q57
                                    obtain ⟨x25_4, x26_4, rfl, rfl, HA, HK4, HO_5, HO_8, HO_22, HB⟩ := hrel
                                    cases gk with
                                    | zero => exact absurd HA.out (by simp [laws_FnPlaces.l0])
                                    | succ k4 =>
                                      have H := HA.out
                                      clear HA
                                      simp only [laws_FnPlaces.l0] at H
                                      by_cases c80 : x26_4 < (t433.length : Int)
                                      · rw [if_pos c80] at H
                                        have c80b0 : decide (x26_4 < (t433.length : Int)) = true := decide_eq_true c80
                                        clear c80
                                        by_cases c81 : 0 ≤ x26_4
                                        · rw [if_pos c81] at H
                                          have c81b0 : decide (0 ≤ x26_4) = true := decide_eq_true c81
                                          clear c81
                                          replace H := Option.bind_eq_some_iff.mp H
                                          obtain ⟨⟨t439, t440⟩, A820, H⟩ := H
                                          replace H : (if t440 = 0 then (if 0 ≤ (rd t433 x26_4) then (if (rd t433 x26_4) < (t402.length : Int) then (if t439 = (rd t402 (rd t433 x26_4)) then ((impl_PlusNim.f x25_4 t439).bind fun t443 => (laws_FnPlaces.l0 k4 t395 t402 t425 t433 t436 t437 t443 (wrap64 (x26_4 + 1)))) else (some false)) else (none)) else (none)) else (some false)) = some r := H
                                          have A82 := Aside0.mk A820
                                          clear A820
                                          by_cases c83 : t440 = 0
                                          · rw [if_pos c83] at H
                                            have c83b0 : (t440 == 0) = true := beq_iff_eq.mpr c83
                                            have c83b1 : (t440 != 0) = false := bne_eq_false_iff_eq.mpr c83
                                            clear c83
                                            by_cases c84 : 0 ≤ (rd t433 x26_4)
                                            · rw [if_pos c84] at H
                                              have c84b0 : decide (0 ≤ (rd t433 x26_4)) = true := decide_eq_true c84
                                              clear c84
                                              by_cases c85 : (rd t433 x26_4) < (t402.length : Int)
                                              · rw [if_pos c85] at H
                                                have c85b0 : decide ((rd t433 x26_4) < (t402.length : Int)) = true := decide_eq_true c85
                                                clear c85
                                                by_cases c86 : t439 = (rd t402 (rd t433 x26_4))
                                                · rw [if_pos c86] at H
                                                  have c86b0 : (t439 == (rd t402 (rd t433 x26_4))) = true := beq_iff_eq.mpr c86
                                                  have c86b1 : (t439 != (rd t402 (rd t433 x26_4))) = false := bne_eq_false_iff_eq.mpr c86
                                                  clear c86
                                                  replace H := Option.bind_eq_some_iff.mp H
                                                  obtain ⟨t443, A870, H⟩ := H
                                                  replace H : (laws_FnPlaces.l0 k4 t395 t402 t425 t433 t436 t437 t443 (wrap64 (x26_4 + 1))) = some r := H
                                                  have A87 := Aside0.mk A870
                                                  clear A870
                                                  have H' := Aside0.mk H
                                                  clear H
                                                  have p438 : 0 ≤ (x26_4 : Int) := of_decide_eq_true (by first | (with_reducible assumption) | assumption)
                                                  have q438 : x26_4 < (t433.length : Int) := of_decide_eq_true (by first | (with_reducible assumption) | assumption)
                                                  obtain ⟨ad438, e438, hx438_0⟩ := Kd.at_int (Kd.R_reads' HO_22.out).2.2 x26_4 p438 q438
                                                  cases e438
                                                  replace p438 := eq_true p438
                                                  replace q438 := eq_true q438
                                                  go_wp2_with (first | ((with_reducible refine gate_callee (f := 19) rfl ?_); refine goesL_ (some 194) rfl rfl Tryz.func19 (by kernel_rfl) rfl #[.slice Ao17 t395.length co17, .int .i64 (rd t433 x26_4)] rfl (by (try simp only [List.map_toArray, List.map_cons, List.map_nil]); first | done | rfl | (simp only [List.length_drop, List.length_take]; rfl)) ?_; (with_reducible refine (impl_ValueAt.calls k4 _ _ t395 (rd t433 x26_4) t439 t440 _ ?side1 ?side2 A82.out).mono ?_); (case side1 => repeat (first | exact (Kd.S_reads' HO_5.out).2.2 | (with_reducible refine Kd.C_alloc ?_ _) | (with_reducible refine Kd.C_drewN ?_ _) | (with_reducible refine Kd.C_drew ?_))); (case side2 => exact (Kd.S_reads' HO_5.out).2.1); rintro e w88 ⟨rfl, hb⟩; refine ⟨_, rfl, ?_⟩; have n0_ := Aside0.mk (Kd.S_below (by (with_reducible repeat (first | apply Kd.S_alloc | apply Kd.S_drewN | apply Kd.S_drew)); exact HO_5.out) hb); have n1_ := Aside0.mk (Kd.R_below (by (with_reducible repeat (first | apply Kd.R_alloc | apply Kd.R_drewN | apply Kd.R_drew)); exact HO_8.out) hb); have n2_ := Aside0.mk (Kd.R_below (by (with_reducible repeat (first | apply Kd.R_alloc | apply Kd.R_drewN | apply Kd.R_drew)); exact HO_22.out) hb); have n3_ := Aside0.mk (below_step (by repeat (first | (with_reducible first | exact HB.out | apply below_alloc | apply pw_below_drewN | apply below_drew1) | exact HB.out)) hb); clear HO_5; clear HO_8; clear HO_22; clear HB; have HO_5 := n0_; have HO_8 := n1_; have HO_22 := n2_; have HB := n3_; clear n0_ n1_ n2_ n3_; (try clear hb); (try clear hb2); (try clear hk); (try clear hi); have p441 : 0 ≤ (x26_4 : Int) := of_decide_eq_true (by first | (with_reducible assumption) | assumption); have q441 : x26_4 < (t433.length : Int) := of_decide_eq_true (by first | (with_reducible assumption) | assumption); obtain ⟨ad441, e441, hx441_0⟩ := Kd.at_int (Kd.R_reads' HO_22.out).2.2 x26_4 p441 q441; obtain rfl : ad438 = ad441 := (by injection e441); replace p441 := eq_true p441; replace q441 := eq_true q441; have p442 : 0 ≤ ((rd t433 x26_4) : Int) := of_decide_eq_true (by first | (with_reducible assumption) | assumption); have q442 : (rd t433 x26_4) < (t402.length : Int) := of_decide_eq_true (by first | (with_reducible assumption) | assumption); obtain ⟨ad442, e442, hx442_0⟩ := Kd.at_int (Kd.R_reads' HO_8.out).2.2 (rd t433 x26_4) p442 q442; cases e442; replace p442 := eq_true p442; replace q442 := eq_true q442) | ((with_reducible refine gate_callee (f := 20) rfl ?_); refine goesL_ (some 212) rfl rfl Tryz.func20 (by kernel_rfl) rfl #[.int .u16 x25_4, .int .u16 t439] rfl (by (try simp only [List.map_toArray, List.map_cons, List.map_nil]); first | done | rfl | (simp only [List.length_drop, List.length_take]; rfl)) ?_; (with_reducible refine (impl_PlusNim.calls x25_4 t439 t443 _ A87.out).mono ?_); rintro e w' ⟨rfl, ⟨nd, rfl⟩⟩; refine ⟨_, rfl, ?_⟩))
                                                  go_roundg k4
                                                  case measure => have := HJ2.out; have := HJ14.out; have := HJ59.out; have := HK4.out; omega
                                                  case rel => exact ⟨(t443), (wrap64 (x26_4 + 1)), (by first | rfl | (simp; done) | (simp [*]; done)), (by first | rfl | (simp; done) | (simp [*]; done)), H', ⟨by have := HJ2.out; have := HJ14.out; have := HJ59.out; have := HK4.out; omega⟩, ⟨by (with_reducible repeat (first | apply Kd.S_alloc | apply Kd.S_drewN | apply Kd.S_drew)); exact HO_5.out⟩, ⟨by (with_reducible repeat (first | apply Kd.R_alloc | apply Kd.R_drewN | apply Kd.R_drew)); exact HO_8.out⟩, ⟨by (with_reducible repeat (first | apply Kd.R_alloc | apply Kd.R_drewN | apply Kd.R_drew)); exact HO_22.out⟩, ⟨by repeat (first | (with_reducible first | exact HB.out | apply below_alloc | apply pw_below_drewN | apply below_drew1) | exact HB.out)⟩⟩
                                                · rw [if_neg c86] at H
                                                  have c86b0 : (t439 == (rd t402 (rd t433 x26_4))) = false := beq_eq_false_iff_ne.mpr c86
                                                  have c86b1 : (t439 != (rd t402 (rd t433 x26_4))) = true := bne_iff_ne.mpr c86
                                                  exact absurd (Option.some.inj H) (by rw [hr_]; decide)
                                              · rw [if_neg c85] at H
                                                exact absurd H (by simp)
                                            · rw [if_neg c84] at H
                                              exact absurd H (by simp)
                                          · rw [if_neg c83] at H
                                            have c83b0 : (t440 == 0) = false := beq_eq_false_iff_ne.mpr c83
                                            have c83b1 : (t440 != 0) = true := bne_iff_ne.mpr c83
                                            exact absurd (Option.some.inj H) (by rw [hr_]; decide)
                                        · rw [if_neg c81] at H
                                          exact absurd H (by simp)
                                      · rw [if_neg c80] at H
                                        have c80b0 : decide (x26_4 < (t433.length : Int)) = false := decide_eq_false c80
                                        clear c80
                                        replace H := Option.bind_eq_some_iff.mp H
                                        obtain ⟨⟨t444, t445⟩, A910, H⟩ := H
                                        replace H : ((spec_WinningMoves.f k4 t395 t433).bind fun bt448 => (if t437 = 0 then (if t436 = x25_4 then (if t445 = bt448.2 then (if t445 = 0 then ((spec_SamePairs.f k4 t444 bt448.1).bind fun t452 => (if t452 = true then (laws_FnPlaces.j4 k4 t395 t402 t425 t433 bt448.1 ((decide ((bt448.1.length : Int) > 0)) != (x25_4 != 0))) else (laws_FnPlaces.j4 k4 t395 t402 t425 t433 bt448.1 true))) else (laws_FnPlaces.j4 k4 t395 t402 t425 t433 bt448.1 true)) else (laws_FnPlaces.j4 k4 t395 t402 t425 t433 bt448.1 true)) else (laws_FnPlaces.j4 k4 t395 t402 t425 t433 bt448.1 true)) else (laws_FnPlaces.j4 k4 t395 t402 t425 t433 bt448.1 true))) = some r := H
                                        have A91 := Aside0.mk A910
                                        clear A910
                                        replace H := Option.bind_eq_some_iff.mp H
                                        obtain ⟨⟨t448, t449⟩, A920, H⟩ := H
                                        replace H : (if t437 = 0 then (if t436 = x25_4 then (if t445 = t449 then (if t445 = 0 then ((spec_SamePairs.f k4 t444 t448).bind fun t452 => (if t452 = true then (laws_FnPlaces.j4 k4 t395 t402 t425 t433 t448 ((decide ((t448.length : Int) > 0)) != (x25_4 != 0))) else (laws_FnPlaces.j4 k4 t395 t402 t425 t433 t448 true))) else (laws_FnPlaces.j4 k4 t395 t402 t425 t433 t448 true)) else (laws_FnPlaces.j4 k4 t395 t402 t425 t433 t448 true)) else (laws_FnPlaces.j4 k4 t395 t402 t425 t433 t448 true)) else (laws_FnPlaces.j4 k4 t395 t402 t425 t433 t448 true)) = some r := H
                                        have A92 := Aside0.mk A920
                                        clear A920
                                        have HC93 := Aside0.mk H
                                        clear H
                                        go_upto_region 30 with (first | ((with_reducible refine gate_callee (f := 21) rfl ?_); refine goesL_ (some 216) rfl rfl Tryz.func21 (by kernel_rfl) rfl #[.slice Ao17 t395.length co17, .slice Ao78 t433.length co78] rfl (by (try simp only [List.map_toArray, List.map_cons, List.map_nil]); first | done | rfl | (simp only [List.length_drop, List.length_take]; rfl)) ?_; (with_reducible refine (impl_WinningMoves.calls k4 _ _ t395 _ _ t433 t444 t445 _ ?side1 ?side2 ?side3 ?side4 A91.out).mono ?_); (case side1 => repeat (first | exact (Kd.S_reads' HO_5.out).2.2 | (with_reducible refine Kd.C_alloc ?_ _) | (with_reducible refine Kd.C_drewN ?_ _) | (with_reducible refine Kd.C_drew ?_))); (case side2 => exact (Kd.S_reads' HO_5.out).2.1); (case side3 => repeat (first | exact (Kd.R_reads' HO_22.out).2.2 | (with_reducible refine Kd.C_alloc ?_ _) | (with_reducible refine Kd.C_drewN ?_ _) | (with_reducible refine Kd.C_drew ?_))); (case side4 => exact (Kd.R_reads' HO_22.out).2.1); rintro e w94 ⟨v446, rfl, ho0, hb⟩; refine ⟨_, rfl, ?_⟩; have n0_ := Aside0.mk (Kd.S_below (by (with_reducible repeat (first | apply Kd.S_alloc | apply Kd.S_drewN | apply Kd.S_drew)); exact HO_5.out) hb); have n1_ := Aside0.mk (Kd.R_below (by (with_reducible repeat (first | apply Kd.R_alloc | apply Kd.R_drewN | apply Kd.R_drew)); exact HO_8.out) hb); have n2_ := Aside0.mk (Kd.R_below (by (with_reducible repeat (first | apply Kd.R_alloc | apply Kd.R_drewN | apply Kd.R_drew)); exact HO_22.out) hb); have n3_ := Aside0.mk (Kd.R_lower ho0 (below_size (by repeat (first | (with_reducible first | exact HB.out | apply below_alloc | apply pw_below_drewN | apply below_drew1) | exact HB.out)))); have n4_ := Aside0.mk (below_step (by repeat (first | (with_reducible first | exact HB.out | apply below_alloc | apply pw_below_drewN | apply below_drew1) | exact HB.out)) hb); clear HO_5; clear HO_8; clear HO_22; clear HB; have HO_5 := n0_; have HO_8 := n1_; have HO_22 := n2_; have HO447 := n3_; have HB := n4_; clear n0_ n1_ n2_ n3_ n4_; (try clear hb); (try clear hb2); (try clear hk); (try clear hi); (try clear ho0)) | ((with_reducible refine gate_callee (f := 22) rfl ?_); refine goesL_ (some 222) rfl rfl Tryz.func22 (by kernel_rfl) rfl #[.slice Ao17 t395.length co17, .slice Ao78 t433.length co78] rfl (by (try simp only [List.map_toArray, List.map_cons, List.map_nil]); first | done | rfl | (simp only [List.length_drop, List.length_take]; rfl)) ?_; (with_reducible refine (spec_WinningMoves.calls k4 _ _ t395 _ _ t433 t448 t449 _ ?side1 ?side2 ?side3 ?side4 A92.out).mono ?_); (case side1 => repeat (first | exact (Kd.S_reads' HO_5.out).2.2 | (with_reducible refine Kd.C_alloc ?_ _) | (with_reducible refine Kd.C_drewN ?_ _) | (with_reducible refine Kd.C_drew ?_))); (case side2 => exact (Kd.S_reads' HO_5.out).2.1); (case side3 => repeat (first | exact (Kd.R_reads' HO_22.out).2.2 | (with_reducible refine Kd.C_alloc ?_ _) | (with_reducible refine Kd.C_drewN ?_ _) | (with_reducible refine Kd.C_drew ?_))); (case side4 => exact (Kd.R_reads' HO_22.out).2.1); rintro e w95 ⟨v450, rfl, ho0, hb⟩; refine ⟨_, rfl, ?_⟩; have n0_ := Aside0.mk (Kd.S_below (by (with_reducible repeat (first | apply Kd.S_alloc | apply Kd.S_drewN | apply Kd.S_drew)); exact HO_5.out) hb); have n1_ := Aside0.mk (Kd.R_below (by (with_reducible repeat (first | apply Kd.R_alloc | apply Kd.R_drewN | apply Kd.R_drew)); exact HO_8.out) hb); have n2_ := Aside0.mk (Kd.R_below (by (with_reducible repeat (first | apply Kd.R_alloc | apply Kd.R_drewN | apply Kd.R_drew)); exact HO_22.out) hb); have n3_ := Aside0.mk (Kd.R_elder' (by (with_reducible repeat (first | apply Kd.R_alloc | apply Kd.R_drewN | apply Kd.R_drew)); exact HO447.out) (Kd.R_base ho0) hb); have n4_ := Aside0.mk (Kd.R_lower (Kd.R_new' ho0 (Kd.R_lt (by (with_reducible repeat (first | apply Kd.R_alloc | apply Kd.R_drewN | apply Kd.R_drew)); exact HO447.out))) (below_size (by repeat (first | (with_reducible first | exact HB.out | apply below_alloc | apply pw_below_drewN | apply below_drew1) | exact HB.out)))); have n5_ := Aside0.mk (below_step (by repeat (first | (with_reducible first | exact HB.out | apply below_alloc | apply pw_below_drewN | apply below_drew1) | exact HB.out)) hb); clear HO_5; clear HO_8; clear HO_22; clear HO447; clear HB; have HO_5 := n0_; have HO_8 := n1_; have HO_22 := n2_; have HO447 := n3_; have HO451 := n4_; have HB := n5_; clear n0_ n1_ n2_ n3_ n4_ n5_; (try clear hb); (try clear hb2); (try clear hk); (try clear hi); (try clear ho0)))
                                        (try simp only [Act.put, List.setIfInBounds_toArray, List.set_cons_zero, List.set_cons_succ])
                                        go_cut [254] (fun v254 wc => ∃ (kq : Nat) (x254_92 : Bool), v254 = .bool x254_92 ∧ Aside0 (laws_FnPlaces.j4 kq t395 t402 t425 t433 t448 x254_92 = some r) ∧ Aside0 (kq ≤ k4) ∧ Aside0 (Kd.S (Kd.slice 66 (Kd.int .i8)) 55 wc w.heap.size (fun _ => True) (.slice Ao17 t395.length co17) t395) ∧ Aside0 (Kd.R (Kd.int .u16) 42 wc w.heap.size (fun _ => True) (.slice Ao20 t402.length co20) t402) ∧ Aside0 (Kd.R (Kd.int .i64) 2 wc w.heap.size (fun _ => True) (.slice Ao78 t433.length co78) t433) ∧ Aside0 (Kd.R k53 53 wc w.heap.size (fun _ => True) v450 t448) ∧ Aside0 (Below w.heap.size w wc))
                                        case first =>
                                          as_aux_lemma =>
                                            have H := HC93.out
                                            clear HC93
                                            by_cases c96 : t437 = 0
                                            · rw [if_pos c96] at H
                                              have c96b0 : (t437 == 0) = true := beq_iff_eq.mpr c96
                                              have c96b1 : (t437 != 0) = false := bne_eq_false_iff_eq.mpr c96
                                              clear c96
                                              (first | rw [c96b0] | (simp only [i64_w, i32_w]; rw [c96b0]) | skip)
                                              by_cases c97 : t436 = x25_4
                                              · rw [if_pos c97] at H
                                                have c97b0 : (t436 == x25_4) = true := beq_iff_eq.mpr c97
                                                have c97b1 : (t436 != x25_4) = false := bne_eq_false_iff_eq.mpr c97
                                                clear c97
                                                by_cases c98 : t445 = t449
                                                · rw [if_pos c98] at H
                                                  have c98b0 : (t445 == t449) = true := beq_iff_eq.mpr c98
                                                  have c98b1 : (t445 != t449) = false := bne_eq_false_iff_eq.mpr c98
                                                  clear c98
                                                  by_cases c99 : t445 = 0
                                                  · rw [if_pos c99] at H
                                                    have c99b0 : (t445 == 0) = true := beq_iff_eq.mpr c99
                                                    have c99b1 : (t445 != 0) = false := bne_eq_false_iff_eq.mpr c99
                                                    clear c99
                                                    replace H := Option.bind_eq_some_iff.mp H
                                                    obtain ⟨t452, A1000, H⟩ := H
                                                    replace H : (if t452 = true then (laws_FnPlaces.j4 k4 t395 t402 t425 t433 t448 ((decide ((t448.length : Int) > 0)) != (x25_4 != 0))) else (laws_FnPlaces.j4 k4 t395 t402 t425 t433 t448 true)) = some r := H
                                                    have A100 := Aside0.mk A1000
                                                    clear A1000
                                                    by_cases c101 : t452 = true
                                                    · subst c101
                                                      have H1 : (laws_FnPlaces.j4 k4 t395 t402 t425 t433 t448 ((decide ((t448.length : Int) > 0)) != (x25_4 != 0))) = some r := by rw [if_pos rfl] at H; exact H
                                                      clear H
                                                      have H := H1
                                                      clear H1
                                                      have H' := Aside0.mk H
                                                      clear H
                                                      obtain ⟨Ao102, co102, eo102⟩ := Kd.R_slice HO447.out
                                                      subst eo102
                                                      obtain ⟨Ao103, co103, eo103⟩ := Kd.R_slice HO451.out
                                                      subst eo103
                                                      go_wp2_with (first | (go_at_call 23; (with_reducible refine (spec_SamePairs.calls k4 _ _ t444 _ _ t448 true _ ?side1 ?side2 ?side3 ?side4 A100.out).mono ?_); (case side1 => repeat (first | exact (Kd.R_reads' HO447.out).2.2 | (with_reducible refine Kd.C_alloc ?_ _) | (with_reducible refine Kd.C_drewN ?_ _) | (with_reducible refine Kd.C_drew ?_))); (case side2 => exact (Kd.R_reads' HO447.out).2.1); (case side3 => repeat (first | exact (Kd.R_reads' HO451.out).2.2 | (with_reducible refine Kd.C_alloc ?_ _) | (with_reducible refine Kd.C_drewN ?_ _) | (with_reducible refine Kd.C_drew ?_))); (case side4 => exact (Kd.R_reads' HO451.out).2.1); rintro e w' ⟨rfl, ⟨nd, rfl⟩⟩))
                                                      go_meet
                                                      case rel => exact ⟨_, (((decide ((t448.length : Int) > 0)) != (x25_4 != 0))), (by first | rfl | (simp; done) | (simp [*]; done) | (simp; by_cases g1_ : 0 < t448.length <;> by_cases g2_ : x25_4 = 0 <;> simp [g1_, g2_])), H', ⟨by have := HJ2.out; have := HJ14.out; have := HJ59.out; have := HK4.out; first | omega | exact Nat.le_refl _⟩, ⟨by (with_reducible repeat (first | apply Kd.S_alloc | apply Kd.S_drewN | apply Kd.S_drew)); exact HO_5.out⟩, ⟨by (with_reducible repeat (first | apply Kd.R_alloc | apply Kd.R_drewN | apply Kd.R_drew)); exact HO_8.out⟩, ⟨by (with_reducible repeat (first | apply Kd.R_alloc | apply Kd.R_drewN | apply Kd.R_drew)); exact HO_22.out⟩, ⟨by (with_reducible repeat (first | apply Kd.R_alloc | apply Kd.R_drewN | apply Kd.R_drew)); exact Kd.R_mono HO451.out (fun _ hk => trivial)⟩, ⟨by repeat (first | (with_reducible first | exact HB.out | apply below_alloc | apply pw_below_drewN | apply below_drew1) | exact HB.out)⟩⟩
                                                    · replace c101 := Bool.eq_false_iff.mpr c101
                                                      subst c101
                                                      have H1 : (laws_FnPlaces.j4 k4 t395 t402 t425 t433 t448 true) = some r := by rw [if_neg (show ¬ (false = true) by decide)] at H; exact H
                                                      clear H
                                                      have H := H1
                                                      clear H1
                                                      exact absurd (H.trans (congrArg some hr_)) (laws_FnPlaces.j4_dead _ _ _ _ _ _)
                                                  · rw [if_neg c99] at H
                                                    have c99b0 : (t445 == 0) = false := beq_eq_false_iff_ne.mpr c99
                                                    have c99b1 : (t445 != 0) = true := bne_iff_ne.mpr c99
                                                    exact absurd (H.trans (congrArg some hr_)) (laws_FnPlaces.j4_dead _ _ _ _ _ _)
                                                · rw [if_neg c98] at H
                                                  have c98b0 : (t445 == t449) = false := beq_eq_false_iff_ne.mpr c98
                                                  have c98b1 : (t445 != t449) = true := bne_iff_ne.mpr c98
                                                  exact absurd (H.trans (congrArg some hr_)) (laws_FnPlaces.j4_dead _ _ _ _ _ _)
                                              · rw [if_neg c97] at H
                                                have c97b0 : (t436 == x25_4) = false := beq_eq_false_iff_ne.mpr c97
                                                have c97b1 : (t436 != x25_4) = true := bne_iff_ne.mpr c97
                                                exact absurd (H.trans (congrArg some hr_)) (laws_FnPlaces.j4_dead _ _ _ _ _ _)
                                            · rw [if_neg c96] at H
                                              have c96b0 : (t437 == 0) = false := beq_eq_false_iff_ne.mpr c96
                                              have c96b1 : (t437 != 0) = true := bne_iff_ne.mpr c96
                                              (first | rw [c96b0] | (simp only [i64_w, i32_w]; rw [c96b0]) | skip)
                                              exact absurd (H.trans (congrArg some hr_)) (laws_FnPlaces.j4_dead _ _ _ _ _ _)
                                        case rest =>
                                          as_aux_lemma =>
                                            clear HC93
                                            try clear c1
                                            try clear c2
                                            try clear p2
                                            try clear c3
                                            try clear c4
                                            try clear p4
                                            try clear q4
                                            try clear hx4
                                            try clear c5
                                            try clear p5
                                            try clear q5
                                            try clear hx5
                                            try clear hf5
                                            try clear c6
                                            try clear p6
                                            try clear c7
                                            try clear c8
                                            try clear c9
                                            try clear c10
                                            try clear c11
                                            try clear c16
                                            try clear c17
                                            try clear c18
                                            try clear c19
                                            try clear c20
                                            try clear c21
                                            try clear c22
                                            try clear c25
                                            try clear c25b0
                                            try clear c25b1
                                            try clear c26
                                            try clear c26b0
                                            try clear c26b1
                                            try clear c28
                                            try clear c29
                                            try clear c29b0
                                            try clear c29b1
                                            try clear c29b2
                                            try clear c30
                                            try clear c30b0
                                            try clear c30b1
                                            try clear c31
                                            try clear c32
                                            try clear c32b0
                                            try clear c32b1
                                            try clear c33
                                            try clear c33b0
                                            try clear c33b1
                                            try clear c35
                                            try clear c37
                                            try clear p42
                                            try clear q42
                                            try clear hx42
                                            try clear p43
                                            try clear q43
                                            try clear hx43
                                            try clear p44
                                            try clear q44
                                            try clear hx44
                                            try clear c51
                                            try clear c52
                                            try clear c54
                                            try clear c54b0
                                            try clear c55
                                            try clear c55b0
                                            try clear p57
                                            try clear q57
                                            try clear hx57
                                            try clear hf57
                                            try clear p64
                                            try clear c71
                                            try clear c71b0
                                            try clear c71b1
                                            try clear c72
                                            try clear c73
                                            try clear c73b0
                                            try clear c73b1
                                            try clear c74
                                            try clear c80
                                            try clear c80b0
                                            try clear c81
                                            try clear c81b0
                                            try clear c83
                                            try clear c83b0
                                            try clear c83b1
                                            try clear c84
                                            try clear c84b0
                                            try clear c85
                                            try clear c85b0
                                            try clear c86
                                            try clear c86b0
                                            try clear c86b1
                                            try clear c96
                                            try clear c96b0
                                            try clear c96b1
                                            try clear c97
                                            try clear c97b0
                                            try clear c97b1
                                            try clear c98
                                            try clear c98b0
                                            try clear c98b1
                                            try clear c99
                                            try clear c99b0
                                            try clear c99b1
                                            try clear c101
                                            try clear hx426_0
                                            try clear hx438_0
                                            try clear hx441_0
                                            try clear hx442_0
                                            try clear hx57_0
                                            try clear p2
                                            try clear p4
                                            try clear p42
                                            try clear p426
                                            try clear p438
                                            try clear p441
                                            try clear p442
                                            try clear p5
                                            try clear p57
                                            try clear q4
                                            try clear q42
                                            try clear q426
                                            try clear q438
                                            try clear q441
                                            try clear q442
                                            try clear q5
                                            try clear q57
                                            obtain ⟨kq, x254_92, rfl, HA, HJ92, HO_5, HO_8, HO_22, HO_31, HB⟩ := hcut
                                            cases kq with
                                            | zero => exact absurd HA.out (by simp [laws_FnPlaces.j4])
                                            | succ kj92 =>
                                              have H := HA.out
                                              clear HA
                                              simp only [laws_FnPlaces.j4] at H
                                              by_cases c106 : x254_92 = true
                                              · subst c106
                                                have H1 : (some false) = some r := by rw [if_pos rfl] at H; exact H
                                                clear H
                                                have H := H1
                                                clear H1
                                                obtain rfl := Option.some.inj H
                                                go_wp2
                                                go_ret
                                                exact ⟨by first | rfl | (simp [errW_none, errW_some] <;> rfl) | (simp [*, errW_none, errW_some] <;> rfl), by repeat (first | (with_reducible first | exact HB.out | apply below_alloc | apply pw_below_drewN | apply below_drew1) | exact HB.out)⟩
                                              · replace c106 := Bool.eq_false_iff.mpr c106
                                                subst c106
                                                have H1 : (laws_FnPlaces.l1 kj92 t395 t402 t425 t433 t448 0) = some r := by rw [if_neg (show ¬ (false = true) by decide)] at H; exact H
                                                clear H
                                                have H := H1
                                                clear H1
                                                have H' := Aside0.mk H
                                                clear H
                                                go_wp2
                                                go_loopg [33] kj92 (fun kq v33 w' => ∃ (x22_6 : List Int) (x33_6 : Int), v33 = .int .i64 x33_6 ∧ Aside0 (laws_FnPlaces.l1 kq t395 t402 t425 x22_6 t448 x33_6 = some r) ∧ Aside0 (kq ≤ kj92) ∧ Aside0 (Kd.S (Kd.slice 66 (Kd.int .i8)) 55 w' w.heap.size (fun _ => True) (.slice Ao17 t395.length co17) t395) ∧ Aside0 (Kd.R (Kd.int .u16) 42 w' w.heap.size (fun _ => True) (.slice Ao20 t402.length co20) t402) ∧ Aside0 (Kd.R (Kd.int .i64) 2 w' w.heap.size (fun _ => True) (.slice Ao78 t433.length co78) x22_6) ∧ Aside0 (Kd.R k53 53 w' w.heap.size (fun _ => True) v450 t448) ∧ Aside0 (Below w.heap.size w w'))
                                                case atStart => exact ⟨(t433), (0), (by first | rfl | (simp; done) | (simp [*]; done)), H', ⟨Nat.le_refl _⟩, ⟨by (with_reducible repeat (first | apply Kd.S_alloc | apply Kd.S_drewN | apply Kd.S_drew)); exact HO_5.out⟩, ⟨by (with_reducible repeat (first | apply Kd.R_alloc | apply Kd.R_drewN | apply Kd.R_drew)); exact HO_8.out⟩, ⟨by (with_reducible repeat (first | apply Kd.R_alloc | apply Kd.R_drewN | apply Kd.R_drew)); exact HO_22.out⟩, ⟨by (with_reducible repeat (first | apply Kd.R_alloc | apply Kd.R_drewN | apply Kd.R_drew)); exact HO_31.out⟩, ⟨by repeat (first | (with_reducible first | exact HB.out | apply below_alloc | apply pw_below_drewN | apply below_drew1) | exact HB.out)⟩⟩
                                                case round =>
                                                  as_aux_lemma =>
                                                    clear H'
                                                    try clear c1
                                                    try clear c2
                                                    try clear p2
                                                    try clear c3
                                                    try clear c4
                                                    try clear p4
                                                    try clear q4
                                                    try clear hx4
                                                    try clear c5
                                                    try clear p5
                                                    try clear q5
                                                    try clear hx5
                                                    try clear hf5
                                                    try clear c6
                                                    try clear p6
                                                    try clear c7
                                                    try clear c8
                                                    try clear c9
                                                    try clear c10
                                                    try clear c11
                                                    try clear c16
                                                    try clear c17
                                                    try clear c18
                                                    try clear c19
                                                    try clear c20
                                                    try clear c21
                                                    try clear c22
                                                    try clear c25
                                                    try clear c25b0
                                                    try clear c25b1
                                                    try clear c26
                                                    try clear c26b0
                                                    try clear c26b1
                                                    try clear c28
                                                    try clear c29
                                                    try clear c29b0
                                                    try clear c29b1
                                                    try clear c29b2
                                                    try clear c30
                                                    try clear c30b0
                                                    try clear c30b1
                                                    try clear c31
                                                    try clear c32
                                                    try clear c32b0
                                                    try clear c32b1
                                                    try clear c33
                                                    try clear c33b0
                                                    try clear c33b1
                                                    try clear c35
                                                    try clear c37
                                                    try clear p42
                                                    try clear q42
                                                    try clear hx42
                                                    try clear p43
                                                    try clear q43
                                                    try clear hx43
                                                    try clear p44
                                                    try clear q44
                                                    try clear hx44
                                                    try clear c51
                                                    try clear c52
                                                    try clear c54
                                                    try clear c54b0
                                                    try clear c55
                                                    try clear c55b0
                                                    try clear p57
                                                    try clear q57
                                                    try clear hx57
                                                    try clear hf57
                                                    try clear p64
                                                    try clear c71
                                                    try clear c71b0
                                                    try clear c71b1
                                                    try clear c72
                                                    try clear c73
                                                    try clear c73b0
                                                    try clear c73b1
                                                    try clear c74
                                                    try clear c80
                                                    try clear c80b0
                                                    try clear c81
                                                    try clear c81b0
                                                    try clear c83
                                                    try clear c83b0
                                                    try clear c83b1
                                                    try clear c84
                                                    try clear c84b0
                                                    try clear c85
                                                    try clear c85b0
                                                    try clear c86
                                                    try clear c86b0
                                                    try clear c86b1
                                                    try clear c96
                                                    try clear c96b0
                                                    try clear c96b1
                                                    try clear c97
                                                    try clear c97b0
                                                    try clear c97b1
                                                    try clear c98
                                                    try clear c98b0
                                                    try clear c98b1
                                                    try clear c99
                                                    try clear c99b0
                                                    try clear c99b1
                                                    try clear c101
                                                    try clear c106
                                                    try clear hx426_0
                                                    try clear hx438_0
                                                    try clear hx441_0
                                                    try clear hx442_0
                                                    try clear hx57_0
                                                    try clear p2
                                                    try clear p4
                                                    try clear p42
                                                    try clear p426
                                                    try clear p43
                                                    try clear p438
                                                    try clear p44
                                                    try clear p441
                                                    try clear p442
                                                    try clear p5
                                                    try clear p57
                                                    try clear p6
                                                    try clear p64
                                                    try clear q4
                                                    try clear q42
                                                    try clear q426
                                                    try clear q43
                                                    try clear q438
                                                    try clear q44
                                                    try clear q441
                                                    try clear q442
                                                    try clear q5
                                                    try clear q57
                                                    obtain ⟨x22_6, x33_6, rfl, HA, HK6, HO_5, HO_8, HO_22, HO_31, HB⟩ := hrel
                                                    have hl22_6 := (Kd.R_reads' HO_22.out).1
                                                    rw [hl22_6] at HO_22
                                                    (try simp only [hl22_6])
                                                    (try simp only [hl22_6] at HO_5)
                                                    (try simp only [hl22_6] at HO_8)
                                                    (try simp only [hl22_6] at HO_31)
                                                    cases gk with
                                                    | zero => exact absurd HA.out (by simp [laws_FnPlaces.l1])
                                                    | succ k6 =>
                                                      have H := HA.out
                                                      clear HA
                                                      simp only [laws_FnPlaces.l1] at H
                                                      by_cases c107 : x33_6 < (t448.length : Int)
                                                      · rw [if_pos c107] at H
                                                        have c107b0 : decide (x33_6 < (t448.length : Int)) = true := decide_eq_true c107
                                                        clear c107
                                                        obtain ⟨y457, hy457⟩ : ∃ y_ : List Int, y_ = (([] : List Int)) := ⟨_, rfl⟩
                                                        replace H : (if y457.length + x22_6.length < 17592186044416 then ((some (y457 ++ x22_6 : List Int)).bind fun y460 => (if 0 ≤ x33_6 then (if ((rd_T53 t448 x33_6).f0) < 0 then (laws_FnPlaces.j6 k6 t395 t402 t425 x22_6 t448 x33_6 y460 true) else (laws_FnPlaces.j6 k6 t395 t402 t425 x22_6 t448 x33_6 y460 (decide (((rd_T53 t448 x33_6).f0) ≥ (y460.length : Int))))) else (none))) else (none)) = some r := by first | (rw [hy457]; with_reducible exact H) | (have H2_ := (Option.bind_some _ _).symm.trans H; rw [hy457]; with_reducible exact H2_) | (have H2_ := (Option.bind_some _ _).symm.trans H; with_reducible exact H2_) | with_reducible exact H | (rw [hy457]; exact H) | exact H
                                                        have Ny457 := Aside0.mk hy457
                                                        clear hy457
                                                        by_cases c108 : y457.length + x22_6.length < 17592186044416
                                                        · rw [if_pos c108] at H
                                                          have LMc108 := Aside0.mk c108
                                                          clear c108
                                                          obtain ⟨y460, hy460⟩ : ∃ y_ : List Int, y_ = (y457 ++ x22_6) := ⟨_, rfl⟩
                                                          replace H : (if 0 ≤ x33_6 then (if ((rd_T53 t448 x33_6).f0) < 0 then (laws_FnPlaces.j6 k6 t395 t402 t425 x22_6 t448 x33_6 y460 true) else (laws_FnPlaces.j6 k6 t395 t402 t425 x22_6 t448 x33_6 y460 (decide (((rd_T53 t448 x33_6).f0) ≥ (y460.length : Int))))) else (none)) = some r := by first | (rw [hy460]; with_reducible exact H) | (have H2_ := (Option.bind_some _ _).symm.trans H; rw [hy460]; with_reducible exact H2_) | (have H2_ := (Option.bind_some _ _).symm.trans H; with_reducible exact H2_) | with_reducible exact H | (rw [hy460]; exact H) | exact H
                                                          have Ny460 := Aside0.mk hy460
                                                          clear hy460
                                                          have HC109 := Aside0.mk H
                                                          clear H
                                                          obtain ⟨Ao110, co110, eo110⟩ := Kd.R_slice HO_31.out
                                                          subst eo110
                                                          go_upto_region 36 with (first | ((with_reducible refine gate_dst (N := 261) rfl ?_); (try (refine gate_guard (by rfl) ?_; dsimp only)); refine Kd.R_lit (Kd.int .i64) _ 2 ?hg (N := 261) ?hd (xs := ([] : List Int)) (inner := []) (ok := fun _ => True) (okp := fun _ => True) ?hr ?hp (fun _ hk => hk) trivial (Below.refl _ _) (Nat.le_refl _) (by simp) ?_; (case hd => rfl); (case hg => rfl); (case hr => first | (go_simp; done) | (go_simp; rfl)); (case hp => exact (Reps.none _ _)); intro v458 w111 ho112 hb hg_ hnew_; clear hg_ hnew_; (first | rw [← Ny457.out] at ho112 | (simp only [Int.reduceToNat] at ho112; rw [← Ny457.out] at ho112)); have n0_ := Aside0.mk (Kd.S_below (by (with_reducible repeat (first | apply Kd.S_alloc | apply Kd.S_drewN | apply Kd.S_drew)); exact HO_5.out) hb); have n1_ := Aside0.mk (Kd.R_below (by (with_reducible repeat (first | apply Kd.R_alloc | apply Kd.R_drewN | apply Kd.R_drew)); exact HO_8.out) hb); have n2_ := Aside0.mk (Kd.R_elder' (by (with_reducible repeat (first | apply Kd.R_alloc | apply Kd.R_drewN | apply Kd.R_drew)); exact HO_22.out) (Kd.R_base ho112) hb); have n3_ := Aside0.mk (Kd.R_below (by (with_reducible repeat (first | apply Kd.R_alloc | apply Kd.R_drewN | apply Kd.R_drew)); exact HO_31.out) hb); have n4_ := Aside0.mk (Kd.R_lower (Kd.R_new' ho112 (Kd.R_lt (by (with_reducible repeat (first | apply Kd.R_alloc | apply Kd.R_drewN | apply Kd.R_drew)); exact HO_22.out))) (below_size (by repeat (first | (with_reducible first | exact HB.out | apply below_alloc | apply pw_below_drewN | apply below_drew1) | exact HB.out)))); have n5_ := Aside0.mk (below_step (by repeat (first | (with_reducible first | exact HB.out | apply below_alloc | apply pw_below_drewN | apply below_drew1) | exact HB.out)) hb); clear HO_5; clear HO_8; clear HO_22; clear HO_31; clear HB; have HO_5 := n0_; have HO_8 := n1_; have HO_22 := n2_; have HO_31 := n3_; have HO459 := n4_; have HB := n5_; clear n0_ n1_ n2_ n3_ n4_ n5_; clear hb ho112) | ((with_reducible refine gate_builtin (b := .append) (xs := #[.tmp 261, .tmp 262]) rfl ?_); (try (refine gate_guard (by rfl) ?_; dsimp only)); at_builtin; refine Kd.R_append_rows (Kd.int .i64) (w0 := w) w.heap.size rfl (.tmp 261) (.tmp 262) 43 2 (.int .i64 0) 8 rfl Tryz.underlying43 info2 rfl (by decide) (by omega) v458 y457 x22_6 _ _ _ (fun k_ => some k_ ≠ (.slice Ao78 x22_6.length co78 : Value).ownBlock) (fun _ => False) rfl rfl ?aO ?aR (fun _ _ h => h) (fun _ h => h.elim) ?aF ?aB ?aS ?aL ?_; (case aR => repeat (first | exact (Kd.R_reads' HO_22.out).2.2 | (with_reducible refine Kd.C_alloc ?_ _) | (with_reducible refine Kd.C_drewN ?_ _) | (with_reducible refine Kd.C_drew ?_))); (case aB => exact (by repeat (first | (with_reducible first | exact HB.out | apply below_alloc | apply pw_below_drewN | apply below_drew1) | exact HB.out))); (case aF => exact (fun k_ hk => Kd.fresh' (Kd.R_lt (by (with_reducible repeat (first | apply Kd.R_alloc | apply Kd.R_drewN | apply Kd.R_drew)); exact HO_22.out)) k_ hk)); (case aO => exact (by (with_reducible repeat (first | apply Kd.R_alloc | apply Kd.R_drewN | apply Kd.R_drew)); exact Kd.R_mono HO459.out (fun _ hk => hk.2))); (case aS => exact (below_size (by repeat (first | (with_reducible first | exact HB.out | apply below_alloc | apply pw_below_drewN | apply below_drew1) | exact HB.out)))); (case aL => have := LMc108.out; omega); intro v461 w113 ho hb hg hat; rw [← Ny460.out] at ho; have n0_ := Aside0.mk (Kd.S_over' (by (with_reducible repeat (first | apply Kd.S_alloc | apply Kd.S_drewN | apply Kd.S_drew)); exact HO_5.out) (Kd.R_typed (by (with_reducible repeat (first | apply Kd.R_alloc | apply Kd.R_drewN | apply Kd.R_drew)); exact HO459.out)) (by decide) hg); have n1_ := Aside0.mk (Kd.R_over' (by (with_reducible repeat (first | apply Kd.R_alloc | apply Kd.R_drewN | apply Kd.R_drew)); exact HO_8.out) (Kd.R_typed (by (with_reducible repeat (first | apply Kd.R_alloc | apply Kd.R_drewN | apply Kd.R_drew)); exact HO459.out)) (by decide) hg); have n2_ := Aside0.mk (Kd.R_after (ok := (fun _ => True)) (by (with_reducible repeat (first | apply Kd.R_alloc | apply Kd.R_drewN | apply Kd.R_drew)); exact HO_22.out) hg hat); have n3_ := Aside0.mk (Kd.R_over' (by (with_reducible repeat (first | apply Kd.R_alloc | apply Kd.R_drewN | apply Kd.R_drew)); exact HO_31.out) (Kd.R_typed (by (with_reducible repeat (first | apply Kd.R_alloc | apply Kd.R_drewN | apply Kd.R_drew)); exact HO459.out)) (by decide) hg); have n4_ := Aside0.mk (hb); have n5_ := Aside0.mk (ho); clear HO_5; clear HO_8; clear HO_22; clear HO_31; clear HB; clear HO459; have HO_5 := n0_; have HO_8 := n1_; have HO_22 := n2_; have HO_31 := n3_; have HB := n4_; have HO462 := n5_; clear n0_ n1_ n2_ n3_ n4_ n5_; clear ho hb hg hat))
                                                          (try simp only [Act.put, List.setIfInBounds_toArray, List.set_cons_zero, List.set_cons_succ])
                                                          go_cut [279] (fun v279 wc => ∃ (kq : Nat) (x279_108 : Bool), v279 = .bool x279_108 ∧ Aside0 (laws_FnPlaces.j6 kq t395 t402 t425 x22_6 t448 x33_6 y460 x279_108 = some r) ∧ Aside0 (kq ≤ k6) ∧ Aside0 (Kd.S (Kd.slice 66 (Kd.int .i8)) 55 wc w.heap.size (fun _ => True) (.slice Ao17 t395.length co17) t395) ∧ Aside0 (Kd.R (Kd.int .u16) 42 wc w.heap.size (fun _ => True) (.slice Ao20 t402.length co20) t402) ∧ Aside0 (Kd.R (Kd.int .i64) 2 wc w.heap.size (fun k_ => some k_ ≠ (v461 : Value).ownBlock) (.slice Ao78 x22_6.length co78) x22_6) ∧ Aside0 (Kd.R k53 53 wc w.heap.size (fun _ => True) (.slice Ao110 t448.length co110) t448) ∧ Aside0 (Kd.R (Kd.int .i64) 2 wc w.heap.size (fun k_ => some k_ ≠ ((.slice Ao78 x22_6.length co78) : Value).ownBlock) v461 y460) ∧ Aside0 (Below w.heap.size w wc))
                                                          case first =>
                                                            as_aux_lemma =>
                                                              have H := HC109.out
                                                              clear HC109
                                                              by_cases c114 : 0 ≤ x33_6
                                                              · rw [if_pos c114] at H
                                                                have c114b0 : decide (0 ≤ x33_6) = true := decide_eq_true c114
                                                                clear c114
                                                                (first | rw [c114b0] | (simp only [i64_w, i32_w]; rw [c114b0]) | skip)
                                                                by_cases c115 : ((rd_T53 t448 x33_6).f0) < 0
                                                                · rw [if_pos c115] at H
                                                                  have c115b0 : decide (((rd_T53 t448 x33_6).f0) < 0) = true := decide_eq_true c115
                                                                  clear c115
                                                                  exact absurd (H.trans (congrArg some hr_)) (laws_FnPlaces.j6_dead _ _ _ _ _ _ _ _)
                                                                · rw [if_neg c115] at H
                                                                  have c115b0 : decide (((rd_T53 t448 x33_6).f0) < 0) = false := decide_eq_false c115
                                                                  clear c115
                                                                  have H' := Aside0.mk H
                                                                  clear H
                                                                  have p463 : 0 ≤ (x33_6 : Int) := of_decide_eq_true (by first | (with_reducible assumption) | assumption)
                                                                  have q463 : x33_6 < (t448.length : Int) := of_decide_eq_true (by first | (with_reducible assumption) | assumption)
                                                                  obtain ⟨ad463, e463, hx463_0, hx463_1⟩ := at_T53 (Kd.R_reads' HO_31.out).2.2 x33_6 p463 q463
                                                                  cases e463
                                                                  replace p463 := eq_true p463
                                                                  replace q463 := eq_true q463
                                                                  have p464 : 0 ≤ (x33_6 : Int) := of_decide_eq_true (by first | (with_reducible assumption) | assumption)
                                                                  have q464 : x33_6 < (t448.length : Int) := of_decide_eq_true (by first | (with_reducible assumption) | assumption)
                                                                  obtain ⟨ad464, e464, hx464_0, hx464_1⟩ := at_T53 (Kd.R_reads' HO_31.out).2.2 x33_6 p464 q464
                                                                  obtain rfl : ad463 = ad464 := (by injection e464)
                                                                  replace p464 := eq_true p464
                                                                  replace q464 := eq_true q464
                                                                  obtain ⟨Ao116, co116, eo116⟩ := Kd.R_slice HO462.out
                                                                  subst eo116
                                                                  go_wp2
                                                                  go_meet
                                                                  case rel => exact ⟨_, (decide (((rd_T53 t448 x33_6).f0) ≥ (y460.length : Int))), (by first | rfl | (simp; done) | (simp [*]; done)), H', ⟨by have := HJ2.out; have := HJ14.out; have := HJ59.out; have := HK4.out; have := HJ92.out; have := HK6.out; first | omega | exact Nat.le_refl _⟩, ⟨by (try simp only [hl22_6]); (with_reducible repeat (first | apply Kd.S_alloc | apply Kd.S_drewN | apply Kd.S_drew)); exact HO_5.out⟩, ⟨by (try simp only [hl22_6]); (with_reducible repeat (first | apply Kd.R_alloc | apply Kd.R_drewN | apply Kd.R_drew)); exact HO_8.out⟩, ⟨by (try simp only [hl22_6]); (with_reducible repeat (first | apply Kd.R_alloc | apply Kd.R_drewN | apply Kd.R_drew)); exact Kd.R_mono HO_22.out (fun _ hk => hk.2)⟩, ⟨by (try simp only [hl22_6]); (with_reducible repeat (first | apply Kd.R_alloc | apply Kd.R_drewN | apply Kd.R_drew)); exact HO_31.out⟩, ⟨by (try simp only [hl22_6]); (with_reducible repeat (first | apply Kd.R_alloc | apply Kd.R_drewN | apply Kd.R_drew)); exact HO462.out⟩, ⟨by repeat (first | (with_reducible first | exact HB.out | apply below_alloc | apply pw_below_drewN | apply below_drew1) | exact HB.out)⟩⟩
                                                              · rw [if_neg c114] at H
                                                                exact absurd H (by simp)
                                                          case rest =>
                                                            as_aux_lemma =>
                                                              clear HC109
                                                              try clear c1
                                                              try clear c2
                                                              try clear p2
                                                              try clear c3
                                                              try clear c4
                                                              try clear p4
                                                              try clear q4
                                                              try clear hx4
                                                              try clear c5
                                                              try clear p5
                                                              try clear q5
                                                              try clear hx5
                                                              try clear hf5
                                                              try clear c6
                                                              try clear p6
                                                              try clear c7
                                                              try clear c8
                                                              try clear c9
                                                              try clear c10
                                                              try clear c11
                                                              try clear c16
                                                              try clear c17
                                                              try clear c18
                                                              try clear c19
                                                              try clear c20
                                                              try clear c21
                                                              try clear c22
                                                              try clear c25
                                                              try clear c25b0
                                                              try clear c25b1
                                                              try clear c26
                                                              try clear c26b0
                                                              try clear c26b1
                                                              try clear c28
                                                              try clear c29
                                                              try clear c29b0
                                                              try clear c29b1
                                                              try clear c29b2
                                                              try clear c30
                                                              try clear c30b0
                                                              try clear c30b1
                                                              try clear c31
                                                              try clear c32
                                                              try clear c32b0
                                                              try clear c32b1
                                                              try clear c33
                                                              try clear c33b0
                                                              try clear c33b1
                                                              try clear c35
                                                              try clear c37
                                                              try clear p42
                                                              try clear q42
                                                              try clear hx42
                                                              try clear p43
                                                              try clear q43
                                                              try clear hx43
                                                              try clear p44
                                                              try clear q44
                                                              try clear hx44
                                                              try clear p46
                                                              try clear q46
                                                              try clear hx46
                                                              try clear c51
                                                              try clear c52
                                                              try clear c54
                                                              try clear c54b0
                                                              try clear c55
                                                              try clear c55b0
                                                              try clear p57
                                                              try clear q57
                                                              try clear hx57
                                                              try clear hf57
                                                              try clear p64
                                                              try clear c71
                                                              try clear c71b0
                                                              try clear c71b1
                                                              try clear c72
                                                              try clear c73
                                                              try clear c73b0
                                                              try clear c73b1
                                                              try clear c74
                                                              try clear c80
                                                              try clear c80b0
                                                              try clear c81
                                                              try clear c81b0
                                                              try clear c83
                                                              try clear c83b0
                                                              try clear c83b1
                                                              try clear c84
                                                              try clear c84b0
                                                              try clear c85
                                                              try clear c85b0
                                                              try clear c86
                                                              try clear c86b0
                                                              try clear c86b1
                                                              try clear c96
                                                              try clear c96b0
                                                              try clear c96b1
                                                              try clear c97
                                                              try clear c97b0
                                                              try clear c97b1
                                                              try clear c98
                                                              try clear c98b0
                                                              try clear c98b1
                                                              try clear c99
                                                              try clear c99b0
                                                              try clear c99b1
                                                              try clear c101
                                                              try clear c106
                                                              try clear c107
                                                              try clear c107b0
                                                              try clear c108
                                                              try clear c114
                                                              try clear c114b0
                                                              try clear c115
                                                              try clear c115b0
                                                              try clear hx426_0
                                                              try clear hx438_0
                                                              try clear hx441_0
                                                              try clear hx442_0
                                                              try clear hx463_0
                                                              try clear hx463_1
                                                              try clear hx464_0
                                                              try clear hx464_1
                                                              try clear hx57_0
                                                              try clear p2
                                                              try clear p4
                                                              try clear p42
                                                              try clear p426
                                                              try clear p43
                                                              try clear p438
                                                              try clear p44
                                                              try clear p441
                                                              try clear p442
                                                              try clear p463
                                                              try clear p464
                                                              try clear p5
                                                              try clear p57
                                                              try clear p6
                                                              try clear p64
                                                              try clear q4
                                                              try clear q42
                                                              try clear q426
                                                              try clear q43
                                                              try clear q438
                                                              try clear q44
                                                              try clear q441
                                                              try clear q442
                                                              try clear q463
                                                              try clear q464
                                                              try clear q5
                                                              try clear q57
                                                              obtain ⟨kq, x279_108, rfl, HA, HJ108, HO_5, HO_8, HO_22, HO_31, HO_34, HB⟩ := hcut
                                                              cases kq with
                                                              | zero => exact absurd HA.out (by simp [laws_FnPlaces.j6])
                                                              | succ kj108 =>
                                                                have H := HA.out
                                                                clear HA
                                                                simp only [laws_FnPlaces.j6] at H
                                                                by_cases c117 : x279_108 = true
                                                                · subst c117
                                                                  have H1 : (some false) = some r := by rw [if_pos rfl] at H; exact H
                                                                  clear H
                                                                  have H := H1
                                                                  clear H1
                                                                  obtain rfl := Option.some.inj H
                                                                  go_wp2
                                                                  go_ret
                                                                  exact ⟨by first | rfl | (simp [errW_none, errW_some] <;> rfl) | (simp [*, errW_none, errW_some] <;> rfl), by repeat (first | (with_reducible first | exact HB.out | apply below_alloc | apply pw_below_drewN | apply below_drew1) | exact HB.out)⟩
                                                                · replace c117 := Bool.eq_false_iff.mpr c117
                                                                  subst c117
                                                                  have H1 : (if 0 ≤ x33_6 then (if x33_6 < (t448.length : Int) then (if 0 ≤ ((rd_T53 t448 x33_6).f0) then (if ((rd_T53 t448 x33_6).f0) < (y460.length : Int) then ((some (y460.set (((rd_T53 t448 x33_6).f0) : Int).toNat ((rd_T53 t448 x33_6).f1) : List Int)).bind fun y467 => ((impl_WinningMoves.f kj108 t395 y467).bind fun bt468 => ((impl_SumAt.f kj108 t395 y467).bind fun bt472 => (if bt468.2 = 0 then (if (bt468.1.length : Int) = 0 then (if bt472.2 = 0 then (if bt472.1 = 0 then (laws_FnPlaces.l1 kj108 t395 t402 t425 x22_6 t448 (wrap64 (x33_6 + 1))) else (some false)) else (some false)) else (some false)) else (some false))))) else (none)) else (none)) else (none)) else (none)) = some r := by rw [if_neg (show ¬ (false = true) by decide)] at H; exact H
                                                                  clear H
                                                                  have H := H1
                                                                  clear H1
                                                                  by_cases c118 : 0 ≤ x33_6
                                                                  · rw [if_pos c118] at H
                                                                    have c118b0 : decide (0 ≤ x33_6) = true := decide_eq_true c118
                                                                    clear c118
                                                                    by_cases c119 : x33_6 < (t448.length : Int)
                                                                    · rw [if_pos c119] at H
                                                                      have c119b0 : decide (x33_6 < (t448.length : Int)) = true := decide_eq_true c119
                                                                      clear c119
                                                                      by_cases c120 : 0 ≤ ((rd_T53 t448 x33_6).f0)
                                                                      · rw [if_pos c120] at H
                                                                        have c120b0 : decide (0 ≤ ((rd_T53 t448 x33_6).f0)) = true := decide_eq_true c120
                                                                        clear c120
                                                                        by_cases c121 : ((rd_T53 t448 x33_6).f0) < (y460.length : Int)
                                                                        · rw [if_pos c121] at H
                                                                          have c121b0 : decide (((rd_T53 t448 x33_6).f0) < (y460.length : Int)) = true := decide_eq_true c121
                                                                          clear c121
                                                                          obtain ⟨y467, hy467⟩ : ∃ y_ : List Int, y_ = (y460.set (((rd_T53 t448 x33_6).f0) : Int).toNat ((rd_T53 t448 x33_6).f1)) := ⟨_, rfl⟩
                                                                          replace H : ((impl_WinningMoves.f kj108 t395 y467).bind fun bt468 => ((impl_SumAt.f kj108 t395 y467).bind fun bt472 => (if bt468.2 = 0 then (if (bt468.1.length : Int) = 0 then (if bt472.2 = 0 then (if bt472.1 = 0 then (laws_FnPlaces.l1 kj108 t395 t402 t425 x22_6 t448 (wrap64 (x33_6 + 1))) else (some false)) else (some false)) else (some false)) else (some false)))) = some r := by first | (rw [hy467]; with_reducible exact H) | (have H2_ := (Option.bind_some _ _).symm.trans H; rw [hy467]; with_reducible exact H2_) | (have H2_ := (Option.bind_some _ _).symm.trans H; with_reducible exact H2_) | with_reducible exact H | (rw [hy467]; exact H) | exact H
                                                                          have Ny467 := Aside0.mk hy467
                                                                          clear hy467
                                                                          replace H := Option.bind_eq_some_iff.mp H
                                                                          obtain ⟨⟨t468, t469⟩, A1230, H⟩ := H
                                                                          replace H : ((impl_SumAt.f kj108 t395 y467).bind fun bt472 => (if t469 = 0 then (if (t468.length : Int) = 0 then (if bt472.2 = 0 then (if bt472.1 = 0 then (laws_FnPlaces.l1 kj108 t395 t402 t425 x22_6 t448 (wrap64 (x33_6 + 1))) else (some false)) else (some false)) else (some false)) else (some false))) = some r := H
                                                                          have A123 := Aside0.mk A1230
                                                                          clear A1230
                                                                          replace H := Option.bind_eq_some_iff.mp H
                                                                          obtain ⟨⟨t472, t473⟩, A1240, H⟩ := H
                                                                          replace H : (if t469 = 0 then (if (t468.length : Int) = 0 then (if t473 = 0 then (if t472 = 0 then (laws_FnPlaces.l1 kj108 t395 t402 t425 x22_6 t448 (wrap64 (x33_6 + 1))) else (some false)) else (some false)) else (some false)) else (some false)) = some r := H
                                                                          have A124 := Aside0.mk A1240
                                                                          clear A1240
                                                                          by_cases c125 : t469 = 0
                                                                          · rw [if_pos c125] at H
                                                                            have c125b0 : (t469 == 0) = true := beq_iff_eq.mpr c125
                                                                            have c125b1 : (t469 != 0) = false := bne_eq_false_iff_eq.mpr c125
                                                                            clear c125
                                                                            by_cases c126 : (t468.length : Int) = 0
                                                                            · rw [if_pos c126] at H
                                                                              have c126b0 : ((t468.length : Int) == 0) = true := beq_iff_eq.mpr c126
                                                                              have c126b1 : ((t468.length : Int) != 0) = false := bne_eq_false_iff_eq.mpr c126
                                                                              clear c126
                                                                              by_cases c127 : t473 = 0
                                                                              · rw [if_pos c127] at H
                                                                                have c127b0 : (t473 == 0) = true := beq_iff_eq.mpr c127
                                                                                have c127b1 : (t473 != 0) = false := bne_eq_false_iff_eq.mpr c127
                                                                                clear c127
                                                                                by_cases c128 : t472 = 0
                                                                                · rw [if_pos c128] at H
                                                                                  have c128b0 : (t472 == 0) = true := beq_iff_eq.mpr c128
                                                                                  have c128b1 : (t472 != 0) = false := bne_eq_false_iff_eq.mpr c128
                                                                                  clear c128
                                                                                  have H' := Aside0.mk H
                                                                                  clear H
                                                                                  try go_wp2
                                                                                  have n0_ := Aside0.mk (Kd.S_drew HO_5.out)
                                                                                  have n1_ := Aside0.mk (Kd.R_drew HO_8.out)
                                                                                  have n2_ := Aside0.mk (Kd.R_drew HO_22.out)
                                                                                  have n3_ := Aside0.mk (Kd.R_drew HO_31.out)
                                                                                  have n4_ := Aside0.mk (Kd.R_drew HO_34.out)
                                                                                  have n5_ := Aside0.mk (below_drew1 HB.out)
                                                                                  clear HO_5
                                                                                  clear HO_8
                                                                                  clear HO_22
                                                                                  clear HO_31
                                                                                  clear HO_34
                                                                                  clear HB
                                                                                  have HO_5 := n0_
                                                                                  have HO_8 := n1_
                                                                                  have HO_22 := n2_
                                                                                  have HO_31 := n3_
                                                                                  have HO_34 := n4_
                                                                                  have HB := n5_
                                                                                  clear n0_ n1_ n2_ n3_ n4_ n5_
                                                                                  have p465 : 0 ≤ (x33_6 : Int) := of_decide_eq_true (by first | (with_reducible assumption) | assumption)
                                                                                  have q465 : x33_6 < (t448.length : Int) := of_decide_eq_true (by first | (with_reducible assumption) | assumption)
                                                                                  obtain ⟨ad465, e465, hx465_0, hx465_1⟩ := at_T53 (Kd.R_reads' HO_31.out).2.2 x33_6 p465 q465
                                                                                  cases e465
                                                                                  replace p465 := eq_true p465
                                                                                  replace q465 := eq_true q465
                                                                                  have p466 : 0 ≤ (x33_6 : Int) := of_decide_eq_true (by first | (with_reducible assumption) | assumption)
                                                                                  have q466 : x33_6 < (t448.length : Int) := of_decide_eq_true (by first | (with_reducible assumption) | assumption)
                                                                                  obtain ⟨ad466, e466, hx466_0, hx466_1⟩ := at_T53 (Kd.R_reads' HO_31.out).2.2 x33_6 p466 q466
                                                                                  obtain rfl : ad465 = ad466 := (by injection e466)
                                                                                  replace p466 := eq_true p466
                                                                                  replace q466 := eq_true q466
                                                                                  have p122 : 0 ≤ (((rd_T53 t448 x33_6).f0) : Int) := of_decide_eq_true (by first | (with_reducible assumption) | assumption)
                                                                                  have q122 : (((rd_T53 t448 x33_6).f0) : Int) < ((y460.length : Int) : Int) := of_decide_eq_true (by first | (with_reducible assumption) | assumption)
                                                                                  obtain ⟨go122, co122, eo122, gb122, gl122, cl122, HG122⟩ := Kd.R_form HO_34.out (by omega)
                                                                                  (first | cases eo122 | (injection eo122 with ea_ en_ ec_; (first | subst ea_ | (injection ea_ with ea_; subst ea_)); subst ec_; clear en_))
                                                                                  have GB122 := Aside0.mk gb122
                                                                                  have GG122 := Aside0.mk HG122
                                                                                  clear gb122 gl122 HG122
                                                                                  obtain ⟨hx122_0, hf122_0⟩ := Kd.R_celln 0 HO_34.out (((rd_T53 t448 x33_6).f0) : Int) p122 q122
                                                                                  replace p122 := eq_true p122
                                                                                  replace q122 := eq_true q122
                                                                                  have HP130 := Kd.R_putn HO_34.out (((rd_T53 t448 x33_6).f0) : Int) ((rd_T53 t448 x33_6).f1)
                                                                                  rw [← Ny467.out] at HP130
                                                                                  have HQ130 := Aside0.mk HP130
                                                                                  clear HP130
                                                                                  refine start_ (n := 13) (S := fun w' => w'.cell? (ad465.add ((x33_6).toNat * 2)) = some (.int .i64 ((rd_T53 t448 x33_6).f0)) ∧ w'.cell? ⟨(ad465.add ((x33_6).toNat * 2)).block, (ad465.add ((x33_6).toNat * 2)).off + 1, none⟩ = some (.int .i64 ((rd_T53 t448 x33_6).f1)) ∧ w'.cell? (ad465.add ((x33_6).toNat * 2)) = some (.int .i64 ((rd_T53 t448 x33_6).f0)) ∧ w'.cell? ⟨(ad465.add ((x33_6).toNat * 2)).block, (ad465.add ((x33_6).toNat * 2)).off + 1, none⟩ = some (.int .i64 ((rd_T53 t448 x33_6).f1))) (ds := [12]) #[false, false, false, false, false, false, false, false, false, false, false, false, false] (by kernel_rfl) rfl rfl ⟨hx465_0, hx465_1, hx466_0, hx466_1⟩ (fun hHeld => ?_); refine with_tabW laws_FnPlaces.tab38 laws_FnPlaces.bits38 (fun HT_ HW_ => ?_)
                                                                                  generalize wc.drew = w129 at HO_5 HO_8 HO_22 HO_31 HO_34 HB GG122 HQ130 hf122_0 hx122_0 hx465_0 hx465_1 hx466_0 hx466_1 hHeld ⊢
                                                                                  refine pure_ (i := 0) (N := some 280) (v := ?_) (a' := ?_) #[true, false, false, false, false, false, false, false, false, false, false, false, false] rfl rfl (any_of HT_.out (by kernel_rfl)) (fun _ _ _ h => h) (Or.inl ⟨by rfl, ?_⟩) ?_ ?_
                                                                                  rotate_left
                                                                                  · intro w'
                                                                                    go_simp
                                                                                    with_reducible rfl
                                                                                  rotate_left
                                                                                  · simp only [Act.put, List.setIfInBounds_toArray, List.set_cons_zero, List.set_cons_succ, i64_w, i32_w]
                                                                                    rfl
                                                                                  refine pure_ (i := 1) (N := some 281) (v := ?_) (a' := ?_) #[true, true, false, false, false, false, false, false, false, false, false, false, false] rfl rfl (any_of HT_.out (by kernel_rfl)) (fun _ _ _ h => h) (Or.inl ⟨by rfl, ?_⟩) ?_ ?_
                                                                                  rotate_left
                                                                                  · intro w'
                                                                                    go_simp
                                                                                    with_reducible rfl
                                                                                  rotate_left
                                                                                  · simp only [Act.put, List.setIfInBounds_toArray, List.set_cons_zero, List.set_cons_succ, i64_w, i32_w]
                                                                                    rfl
                                                                                  refine pure_ (i := 2) (N := some 282) (v := ?_) (a' := ?_) #[true, true, true, false, false, false, false, false, false, false, false, false, false] rfl rfl (any_of HT_.out (by kernel_rfl)) (fun _ _ _ h => h) (Or.inl ⟨by rfl, ?_⟩) ?_ ?_
                                                                                  rotate_left
                                                                                  · intro w'
                                                                                    go_simp
                                                                                    with_reducible rfl
                                                                                  rotate_left
                                                                                  · simp only [Act.put, List.setIfInBounds_toArray, List.set_cons_zero, List.set_cons_succ, i64_w, i32_w]
                                                                                    rfl
                                                                                  refine pure_ (i := 3) (N := some 283) (v := ?_) (a' := ?_) #[true, true, true, true, false, false, false, false, false, false, false, false, false] rfl rfl (any_of HT_.out (by kernel_rfl)) (fun _ _ _ h => h) (Or.inl ⟨by rfl, ?_⟩) ?_ ?_
                                                                                  rotate_left
                                                                                  · intro w'
                                                                                    go_simp
                                                                                    with_reducible rfl
                                                                                  rotate_left
                                                                                  · simp only [Act.put, List.setIfInBounds_toArray, List.set_cons_zero, List.set_cons_succ, i64_w, i32_w]
                                                                                    rfl
                                                                                  refine pure_ (i := 4) (N := some 284) (v := ?_) (a' := ?_) #[true, true, true, true, true, false, false, false, false, false, false, false, false] rfl rfl (any_of HT_.out (by kernel_rfl)) (fun _ _ _ h => h) (Or.inl ⟨by rfl, ?_⟩) ?_ ?_
                                                                                  rotate_left
                                                                                  · intro w'
                                                                                    go_simp
                                                                                    with_reducible rfl
                                                                                  rotate_left
                                                                                  · simp only [Act.put, List.setIfInBounds_toArray, List.set_cons_zero, List.set_cons_succ, i64_w, i32_w]
                                                                                    rfl
                                                                                  refine pure_ (i := 6) (N := some 286) (v := ?_) (a' := ?_) #[true, true, true, true, true, false, true, false, false, false, false, false, false] rfl rfl (any_of HT_.out (by kernel_rfl)) (fun _ _ _ h => h) (Or.inl ⟨by rfl, ?_⟩) ?_ ?_
                                                                                  rotate_left
                                                                                  · intro w'
                                                                                    go_simp
                                                                                    with_reducible rfl
                                                                                  rotate_left
                                                                                  · simp only [Act.put, List.setIfInBounds_toArray, List.set_cons_zero, List.set_cons_succ, i64_w, i32_w]
                                                                                    rfl
                                                                                  refine pure_ (i := 7) (N := some 287) (v := ?_) (a' := ?_) #[true, true, true, true, true, false, true, true, false, false, false, false, false] rfl rfl (any_of HT_.out (by kernel_rfl)) (fun _ _ _ h => h) (Or.inl ⟨by rfl, ?_⟩) ?_ ?_
                                                                                  rotate_left
                                                                                  · intro w'
                                                                                    go_simp
                                                                                    with_reducible rfl
                                                                                  rotate_left
                                                                                  · simp only [Act.put, List.setIfInBounds_toArray, List.set_cons_zero, List.set_cons_succ, i64_w, i32_w]
                                                                                    rfl
                                                                                  refine pure_ (i := 8) (N := some 288) (v := ?_) (a' := ?_) #[true, true, true, true, true, false, true, true, true, false, false, false, false] rfl rfl (any_of HT_.out (by kernel_rfl)) (fun _ _ _ h => h) (Or.inl ⟨by rfl, ?_⟩) ?_ ?_
                                                                                  rotate_left
                                                                                  · intro w'
                                                                                    go_simp
                                                                                    with_reducible rfl
                                                                                  rotate_left
                                                                                  · simp only [Act.put, List.setIfInBounds_toArray, List.set_cons_zero, List.set_cons_succ, i64_w, i32_w]
                                                                                    rfl
                                                                                  refine pure_ (i := 9) (N := some 289) (v := ?_) (a' := ?_) #[true, true, true, true, true, false, true, true, true, true, false, false, false] rfl rfl (any_of HT_.out (by kernel_rfl)) (fun _ _ _ h => h) (Or.inl ⟨by rfl, ?_⟩) ?_ ?_
                                                                                  rotate_left
                                                                                  · intro w'
                                                                                    go_simp
                                                                                    with_reducible rfl
                                                                                  rotate_left
                                                                                  · simp only [Act.put, List.setIfInBounds_toArray, List.set_cons_zero, List.set_cons_succ, i64_w, i32_w]
                                                                                    rfl
                                                                                  refine take_ (i := 5) (N := some 285) (v := ?_) (a' := ?_) #[true, true, true, true, true, true, true, true, true, true, false, false, false] rfl rfl (take_ofW HT_.out HW_.out (by kernel_rfl)) (fun _ _ _ h => h) (Or.inl ⟨by rfl, ?_⟩) hHeld ?_ ?_
                                                                                  rotate_left
                                                                                  · rintro w' ⟨s0, s1, s2, s3⟩
                                                                                    go_simp
                                                                                    with_reducible rfl
                                                                                  rotate_left
                                                                                  · simp only [Act.put, List.setIfInBounds_toArray, List.set_cons_zero, List.set_cons_succ, i64_w, i32_w]
                                                                                    rfl
                                                                                  refine take_ (i := 10) (N := some 290) (v := ?_) (a' := ?_) #[true, true, true, true, true, true, true, true, true, true, true, false, false] rfl rfl (take_ofW HT_.out HW_.out (by kernel_rfl)) (fun _ _ _ h => h) (Or.inl ⟨by rfl, ?_⟩) hHeld ?_ ?_
                                                                                  rotate_left
                                                                                  · rintro w' ⟨s0, s1, s2, s3⟩
                                                                                    go_simp
                                                                                    with_reducible rfl
                                                                                  rotate_left
                                                                                  · simp only [Act.put, List.setIfInBounds_toArray, List.set_cons_zero, List.set_cons_succ, i64_w, i32_w]
                                                                                    rfl
                                                                                  refine pure_ (i := 11) (N := some 291) (v := ?_) (a' := ?_) #[true, true, true, true, true, true, true, true, true, true, true, true, false] rfl rfl (any_of HT_.out (by kernel_rfl)) (fun _ _ _ h => h) (Or.inl ⟨by rfl, ?_⟩) ?_ ?_
                                                                                  rotate_left
                                                                                  · intro w'
                                                                                    go_simp
                                                                                    with_reducible rfl
                                                                                  rotate_left
                                                                                  · simp only [Act.put, List.setIfInBounds_toArray, List.set_cons_zero, List.set_cons_succ, i64_w, i32_w]
                                                                                    rfl
                                                                                  refine last_ (i := 12) (N := none) #[true, true, true, true, true, true, true, true, true, true, true, true, true] rfl rfl (one_of HT_.out (by kernel_rfl)) (by decide) (fun K hK => ?_)
                                                                                  refine skip_ (w1 := ?_) (by rfl) rfl ?_ ?_
                                                                                  rotate_left
                                                                                  · go_simp
                                                                                    rfl
                                                                                  refine hK.out _ _ ?_
                                                                                  clear hK K
                                                                                  refine done_ (done_of HT_.out (by kernel_rfl)) ?_
                                                                                  try go_wp2_with (first | ((with_reducible refine gate_callee (f := 21) rfl ?_); refine goesL_ (some 295) rfl rfl Tryz.func21 (by kernel_rfl) rfl #[.slice Ao17 t395.length co17, .slice (some ⟨go122, 0, none⟩) y467.length co122] rfl (by (try simp only [List.map_toArray, List.map_cons, List.map_nil]); first | done | (rw [show y467.length = y460.length from (Kd.R_reads' HQ130.out).1.symm] <;> rfl) | rfl | (simp only [List.length_drop, List.length_take]; rfl)) ?_; (with_reducible refine (impl_WinningMoves.calls kj108 _ _ t395 _ _ y467 t468 t469 _ ?side1 ?side2 ?side3 ?side4 A123.out).mono ?_); (case side1 => refine (Kd.S_reads' (e := 55) (base := w.heap.size) (ok := fun k_ => True) (n := t395.length) (c := co17) ?_).2.2; exact (by (with_reducible repeat (first | apply Kd.S_alloc | apply Kd.S_drewN | apply Kd.S_drew)); exact (Kd.S_mono (Kd.S_far (p := ⟨go122, (((rd_T53 t448 x33_6).f0) : Int).toNat, none⟩) (Kd.S_types HO_5.out GG122.out (by decide)) (fun _ hk => hk.2) (.int .i64 ((rd_T53 t448 x33_6).f1))) (fun _ h_ => h_.1)))); (case side2 => exact (Kd.S_reads' HO_5.out).2.1); (case side3 => refine (Kd.R_reads' (e := 2) (base := w.heap.size) (ok := fun k_ => some k_ ≠ (.slice Ao78 x22_6.length co78 : Value).ownBlock) (n := y460.length) (c := co122) ?_).2.2; exact (by (with_reducible repeat (first | apply Kd.R_alloc | apply Kd.R_drewN | apply Kd.R_drew)); exact HQ130.out)); (case side4 => rw [show y467.length = y460.length from (Kd.R_reads' HQ130.out).1.symm]; exact (Kd.R_reads' HO_34.out).2.1); rintro e w131 ⟨v470, rfl, ho0, hb⟩; refine ⟨_, rfl, ?_⟩; have n0_ := Aside0.mk (Kd.S_below (by (with_reducible repeat (first | apply Kd.S_alloc | apply Kd.S_drewN | apply Kd.S_drew)); exact (Kd.S_mono (Kd.S_far (p := ⟨go122, (((rd_T53 t448 x33_6).f0) : Int).toNat, none⟩) (Kd.S_types HO_5.out GG122.out (by decide)) (fun _ hk => hk.2) (.int .i64 ((rd_T53 t448 x33_6).f1))) (fun _ h_ => h_.1))) hb); have n1_ := Aside0.mk (Kd.R_below (by (with_reducible repeat (first | apply Kd.R_alloc | apply Kd.R_drewN | apply Kd.R_drew)); exact (Kd.R_mono (Kd.R_far (p := ⟨go122, (((rd_T53 t448 x33_6).f0) : Int).toNat, none⟩) (Kd.R_types HO_8.out GG122.out (by decide)) (fun _ hk => hk.2) (.int .i64 ((rd_T53 t448 x33_6).f1))) (fun _ h_ => h_.1))) hb); have n2_ := Aside0.mk (Kd.R_below (by (with_reducible repeat (first | apply Kd.R_alloc | apply Kd.R_drewN | apply Kd.R_drew)); exact (Kd.R_mono (Kd.R_far (p := ⟨go122, (((rd_T53 t448 x33_6).f0) : Int).toNat, none⟩) (Kd.R_mono HO_22.out (fun k_ hk => (⟨hk, fun e_ => hk (by rw [e_]; rfl)⟩ : _ ∧ k_ ≠ go122))) (fun _ hk => hk.2) (.int .i64 ((rd_T53 t448 x33_6).f1))) (fun _ h_ => h_.1))) hb); have n3_ := Aside0.mk (Kd.R_elder' (by (with_reducible repeat (first | apply Kd.R_alloc | apply Kd.R_drewN | apply Kd.R_drew)); exact (Kd.R_mono (Kd.R_far (p := ⟨go122, (((rd_T53 t448 x33_6).f0) : Int).toNat, none⟩) (Kd.R_types HO_31.out GG122.out (by decide)) (fun _ hk => hk.2) (.int .i64 ((rd_T53 t448 x33_6).f1))) (fun _ h_ => h_.1))) (Kd.R_base ho0) hb); have n4_ := Aside0.mk (Kd.R_below (by (with_reducible repeat (first | apply Kd.R_alloc | apply Kd.R_drewN | apply Kd.R_drew)); exact HQ130.out) hb); have n5_ := Aside0.mk (Kd.R_lower (Kd.R_new' ho0 (Kd.R_lt (by (with_reducible repeat (first | apply Kd.R_alloc | apply Kd.R_drewN | apply Kd.R_drew)); exact (Kd.R_mono (Kd.R_far (p := ⟨go122, (((rd_T53 t448 x33_6).f0) : Int).toNat, none⟩) (Kd.R_types HO_31.out GG122.out (by decide)) (fun _ hk => hk.2) (.int .i64 ((rd_T53 t448 x33_6).f1))) (fun _ h_ => h_.1))))) (below_size (by repeat (first | (with_reducible first | exact HB.out | apply below_alloc | apply pw_below_drewN | apply below_drew1 | refine below_set ?_ GB122.out) | exact HB.out)))); have n6_ := Aside0.mk (below_step (by repeat (first | (with_reducible first | exact HB.out | apply below_alloc | apply pw_below_drewN | apply below_drew1 | refine below_set ?_ GB122.out) | exact HB.out)) hb); clear HO_5; clear HO_8; clear HO_22; clear HO_31; clear HO_34; clear HB; have HO_5 := n0_; have HO_8 := n1_; have HO_22 := n2_; have HO_31 := n3_; have HO_34 := n4_; have HO471 := n5_; have HB := n6_; clear n0_ n1_ n2_ n3_ n4_ n5_ n6_; (try clear hb); (try clear hb2); (try clear hk); (try clear hi); (try clear ho0)) | ((with_reducible refine gate_callee (f := 18) rfl ?_); refine goesL_ (some 301) rfl rfl Tryz.func18 (by kernel_rfl) rfl #[.slice Ao17 t395.length co17, .slice (some ⟨go122, 0, none⟩) y467.length co122] rfl (by (try simp only [List.map_toArray, List.map_cons, List.map_nil]); first | done | (rw [show y467.length = y460.length from (Kd.R_reads' HO_34.out).1.symm] <;> rfl) | rfl | (simp only [List.length_drop, List.length_take]; rfl)) ?_; (with_reducible refine (impl_SumAt.calls kj108 _ _ t395 _ _ y467 t472 t473 _ ?side1 ?side2 ?side3 ?side4 A124.out).mono ?_); (case side1 => repeat (first | exact (Kd.S_reads' HO_5.out).2.2 | (with_reducible refine Kd.C_alloc ?_ _) | (with_reducible refine Kd.C_drewN ?_ _) | (with_reducible refine Kd.C_drew ?_))); (case side2 => exact (Kd.S_reads' HO_5.out).2.1); (case side3 => repeat (first | exact (Kd.R_reads' HO_34.out).2.2 | (with_reducible refine Kd.C_alloc ?_ _) | (with_reducible refine Kd.C_drewN ?_ _) | (with_reducible refine Kd.C_drew ?_))); (case side4 => rw [show y467.length = y460.length from (Kd.R_reads' HO_34.out).1.symm]; exact (Kd.R_reads' HO_34.out).2.1); rintro e w132 ⟨rfl, hb⟩; refine ⟨_, rfl, ?_⟩; have n0_ := Aside0.mk (Kd.S_below (by (with_reducible repeat (first | apply Kd.S_alloc | apply Kd.S_drewN | apply Kd.S_drew)); exact HO_5.out) hb); have n1_ := Aside0.mk (Kd.R_below (by (with_reducible repeat (first | apply Kd.R_alloc | apply Kd.R_drewN | apply Kd.R_drew)); exact HO_8.out) hb); have n2_ := Aside0.mk (Kd.R_below (by (with_reducible repeat (first | apply Kd.R_alloc | apply Kd.R_drewN | apply Kd.R_drew)); exact HO_22.out) hb); have n3_ := Aside0.mk (Kd.R_below (by (with_reducible repeat (first | apply Kd.R_alloc | apply Kd.R_drewN | apply Kd.R_drew)); exact HO_31.out) hb); have n4_ := Aside0.mk (Kd.R_below (by (with_reducible repeat (first | apply Kd.R_alloc | apply Kd.R_drewN | apply Kd.R_drew)); exact HO_34.out) hb); have n5_ := Aside0.mk (Kd.R_below (by (with_reducible repeat (first | apply Kd.R_alloc | apply Kd.R_drewN | apply Kd.R_drew)); exact HO471.out) hb); have n6_ := Aside0.mk (below_step (by repeat (first | (with_reducible first | exact HB.out | apply below_alloc | apply pw_below_drewN | apply below_drew1) | exact HB.out)) hb); clear HO_5; clear HO_8; clear HO_22; clear HO_31; clear HO_34; clear HO471; clear HB; have HO_5 := n0_; have HO_8 := n1_; have HO_22 := n2_; have HO_31 := n3_; have HO_34 := n4_; have HO471 := n5_; have HB := n6_; clear n0_ n1_ n2_ n3_ n4_ n5_ n6_; (try clear hb); (try clear hb2); (try clear hk); (try clear hi); obtain ⟨Ao133, co133, eo133⟩ := Kd.R_slice HO471.out; subst eo133))
                                                                                  (try simp only [← hl22_6])
                                                                                  go_roundg kj108
                                                                                  case measure => have := HJ2.out; have := HJ14.out; have := HJ59.out; have := HK4.out; have := HJ92.out; have := HK6.out; have := HJ108.out; omega
                                                                                  case rel => exact ⟨(x22_6), (wrap64 (x33_6 + 1)), (by first | rfl | (simp; done) | (simp [*]; done)), H', ⟨by have := HJ2.out; have := HJ14.out; have := HJ59.out; have := HK4.out; have := HJ92.out; have := HK6.out; have := HJ108.out; omega⟩, ⟨by (try simp only [hl22_6]); (with_reducible repeat (first | apply Kd.S_alloc | apply Kd.S_drewN | apply Kd.S_drew)); exact HO_5.out⟩, ⟨by (try simp only [hl22_6]); (with_reducible repeat (first | apply Kd.R_alloc | apply Kd.R_drewN | apply Kd.R_drew)); exact HO_8.out⟩, ⟨by (try simp only [hl22_6]); (with_reducible repeat (first | apply Kd.R_alloc | apply Kd.R_drewN | apply Kd.R_drew)); exact Kd.R_mono HO_22.out (fun _ hk => trivial)⟩, ⟨by (try simp only [hl22_6]); (with_reducible repeat (first | apply Kd.R_alloc | apply Kd.R_drewN | apply Kd.R_drew)); exact Kd.R_mono HO_31.out (fun _ hk => trivial)⟩, ⟨by repeat (first | (with_reducible first | exact HB.out | apply below_alloc | apply pw_below_drewN | apply below_drew1) | exact HB.out)⟩⟩
                                                                                · rw [if_neg c128] at H
                                                                                  have c128b0 : (t472 == 0) = false := beq_eq_false_iff_ne.mpr c128
                                                                                  have c128b1 : (t472 != 0) = true := bne_iff_ne.mpr c128
                                                                                  exact absurd (Option.some.inj H) (by rw [hr_]; decide)
                                                                              · rw [if_neg c127] at H
                                                                                have c127b0 : (t473 == 0) = false := beq_eq_false_iff_ne.mpr c127
                                                                                have c127b1 : (t473 != 0) = true := bne_iff_ne.mpr c127
                                                                                exact absurd (Option.some.inj H) (by rw [hr_]; decide)
                                                                            · rw [if_neg c126] at H
                                                                              have c126b0 : ((t468.length : Int) == 0) = false := beq_eq_false_iff_ne.mpr c126
                                                                              have c126b1 : ((t468.length : Int) != 0) = true := bne_iff_ne.mpr c126
                                                                              have c126b2 : ¬ (t468 = []) := fun h_ => c126 (by rw [h_]; rfl)
                                                                              exact absurd (Option.some.inj H) (by rw [hr_]; decide)
                                                                          · rw [if_neg c125] at H
                                                                            have c125b0 : (t469 == 0) = false := beq_eq_false_iff_ne.mpr c125
                                                                            have c125b1 : (t469 != 0) = true := bne_iff_ne.mpr c125
                                                                            exact absurd (Option.some.inj H) (by rw [hr_]; decide)
                                                                        · rw [if_neg c121] at H
                                                                          exact absurd H (by simp)
                                                                      · rw [if_neg c120] at H
                                                                        exact absurd H (by simp)
                                                                    · rw [if_neg c119] at H
                                                                      exact absurd H (by simp)
                                                                  · rw [if_neg c118] at H
                                                                    exact absurd H (by simp)
                                                        · rw [if_neg c108] at H
                                                          exact absurd H (by simp)
                                                      · rw [if_neg c107] at H
                                                        have c107b0 : decide (x33_6 < (t448.length : Int)) = false := decide_eq_false c107
                                                        clear c107
                                                        replace H := Option.bind_eq_some_iff.mp H
                                                        obtain ⟨⟨t453, t454⟩, A1530, H⟩ := H
                                                        replace H : (if t454 = 0 then (if 0 ≤ t425 then (if t425 < (t402.length : Int) then (if t453 < (wrap64 (rd t402 t425)) then (some false) else (if t453 > t425 then (some false) else (if t425 < (t395.length : Int) then (if ((t453 == 0) != (((rd_L2 t395 t425).length : Int) == 0)) = true then (some false) else (some true)) else (none)))) else (none)) else (none)) else (some false)) = some r := H
                                                        have A153 := Aside0.mk A1530
                                                        clear A1530
                                                        by_cases c154 : t454 = 0
                                                        · rw [if_pos c154] at H
                                                          have c154b0 : (t454 == 0) = true := beq_iff_eq.mpr c154
                                                          have c154b1 : (t454 != 0) = false := bne_eq_false_iff_eq.mpr c154
                                                          clear c154
                                                          by_cases c155 : 0 ≤ t425
                                                          · rw [if_pos c155] at H
                                                            have c155b0 : decide (0 ≤ t425) = true := decide_eq_true c155
                                                            clear c155
                                                            by_cases c156 : t425 < (t402.length : Int)
                                                            · rw [if_pos c156] at H
                                                              have c156b0 : decide (t425 < (t402.length : Int)) = true := decide_eq_true c156
                                                              clear c156
                                                              by_cases c157 : t453 < (wrap64 (rd t402 t425))
                                                              · rw [if_pos c157] at H
                                                                have c157b0 : decide (t453 < (wrap64 (rd t402 t425))) = true := decide_eq_true c157
                                                                clear c157
                                                                exact absurd (Option.some.inj H) (by rw [hr_]; decide)
                                                              · rw [if_neg c157] at H
                                                                have c157b0 : decide (t453 < (wrap64 (rd t402 t425))) = false := decide_eq_false c157
                                                                clear c157
                                                                by_cases c160 : t453 > t425
                                                                · rw [if_pos c160] at H
                                                                  have c160b0 : decide (t425 < t453) = true := decide_eq_true c160
                                                                  clear c160
                                                                  exact absurd (Option.some.inj H) (by rw [hr_]; decide)
                                                                · rw [if_neg c160] at H
                                                                  have c160b0 : decide (t425 < t453) = false := decide_eq_false c160
                                                                  clear c160
                                                                  by_cases c163 : t425 < (t395.length : Int)
                                                                  · rw [if_pos c163] at H
                                                                    have c163b0 : decide (t425 < (t395.length : Int)) = true := decide_eq_true c163
                                                                    clear c163
                                                                    by_cases c164 : ((t453 == 0) != (((rd_L2 t395 t425).length : Int) == 0)) = true
                                                                    · rw [if_pos c164] at H
                                                                      have c164b0 : ((t453 == 0) != (((rd_L2 t395 t425).length : Int) == 0)) = true := c164
                                                                      (try (have c164b1 : decide ((t453 == 0) = (((rd_L2 t395 t425).length : Int) == 0)) = false := by simpa using c164))
                                                                      (try (have c164b2 : ((t453 == 0) == (((rd_L2 t395 t425).length : Int) == 0)) = false := by simpa using c164))
                                                                      (try (have c164b3 : ¬ ((t453 == 0) = (((rd_L2 t395 t425).length : Int) == 0)) := by simpa using c164))
                                                                      clear c164
                                                                      exact absurd (Option.some.inj H) (by rw [hr_]; decide)
                                                                    · rw [if_neg c164] at H
                                                                      have c164b0 : ((t453 == 0) != (((rd_L2 t395 t425).length : Int) == 0)) = false := by simpa using c164
                                                                      (try (have c164b1 : decide ((t453 == 0) = (((rd_L2 t395 t425).length : Int) == 0)) = true := by simpa using c164))
                                                                      (try (have c164b2 : ((t453 == 0) == (((rd_L2 t395 t425).length : Int) == 0)) = true := by simpa using c164))
                                                                      clear c164
                                                                      obtain rfl := Option.some.inj H
                                                                      obtain ⟨Ao167, co167, eo167⟩ := Kd.R_slice HO_31.out
                                                                      subst eo167
                                                                      go_wp2_with (first | ((with_reducible refine gate_callee (f := 24) rfl ?_); refine goesL_ (some 322) rfl rfl Tryz.func24 (by kernel_rfl) rfl #[.slice Ao17 t395.length co17, .int .i64 t425] rfl (by (try simp only [List.map_toArray, List.map_cons, List.map_nil]); first | done | rfl | (simp only [List.length_drop, List.length_take]; rfl)) ?_; (with_reducible refine (impl_LongestPlay.calls k6 _ _ t395 t425 t453 t454 _ ?side1 ?side2 A153.out).mono ?_); (case side1 => repeat (first | exact (Kd.S_reads' HO_5.out).2.2 | (with_reducible refine Kd.C_alloc ?_ _) | (with_reducible refine Kd.C_drewN ?_ _) | (with_reducible refine Kd.C_drew ?_))); (case side2 => exact (Kd.S_reads' HO_5.out).2.1); rintro e w168 ⟨rfl, hb⟩; refine ⟨_, rfl, ?_⟩; have n0_ := Aside0.mk (Kd.S_below (by (with_reducible repeat (first | apply Kd.S_alloc | apply Kd.S_drewN | apply Kd.S_drew)); exact HO_5.out) hb); have n1_ := Aside0.mk (Kd.R_below (by (with_reducible repeat (first | apply Kd.R_alloc | apply Kd.R_drewN | apply Kd.R_drew)); exact HO_8.out) hb); have n2_ := Aside0.mk (Kd.R_below (by (with_reducible repeat (first | apply Kd.R_alloc | apply Kd.R_drewN | apply Kd.R_drew)); exact HO_22.out) hb); have n3_ := Aside0.mk (Kd.R_below (by (with_reducible repeat (first | apply Kd.R_alloc | apply Kd.R_drewN | apply Kd.R_drew)); exact HO_31.out) hb); have n4_ := Aside0.mk (below_step (by repeat (first | (with_reducible first | exact HB.out | apply below_alloc | apply pw_below_drewN | apply below_drew1) | exact HB.out)) hb); clear HO_5; clear HO_8; clear HO_22; clear HO_31; clear HB; have HO_5 := n0_; have HO_8 := n1_; have HO_22 := n2_; have HO_31 := n3_; have HB := n4_; clear n0_ n1_ n2_ n3_ n4_; (try clear hb); (try clear hb2); (try clear hk); (try clear hi); have p455 : 0 ≤ (t425 : Int) := of_decide_eq_true (by first | (with_reducible assumption) | assumption); have q455 : t425 < (t402.length : Int) := of_decide_eq_true (by first | (with_reducible assumption) | assumption); obtain ⟨ad455, e455, hx455_0⟩ := Kd.at_int (Kd.R_reads' HO_8.out).2.2 t425 p455 q455; cases e455; replace p455 := eq_true p455; replace q455 := eq_true q455; have p456 : 0 ≤ (t425 : Int) := of_decide_eq_true (by first | (with_reducible assumption) | assumption); have q456 : t425 < (t395.length : Int) := of_decide_eq_true (by first | (with_reducible assumption) | assumption); obtain ⟨ad456, A456_0, c456_0, e456, hx456_0, hl456_0, hi456_0⟩ := at_L2 (Kd.S_reads' HO_5.out).2.2 t425 p456 q456; cases e456; obtain ⟨ce456, hce456, hMe456, hcc456⟩ := Kd.S_get HO_5.out [] t425 p456 (by first | exact q456 | exact of_decide_eq_true (by first | (with_reducible assumption) | assumption) | (have e_ := (Kd.S_reads' HO_5.out).1; omega)); obtain ⟨ve456_0, rfl, ge456_0⟩ := hMe456; have hv456_0 := hcc456 0 _ rfl; rw [Nat.add_zero, show ((Kd.slice 66 (Kd.int .i8))).sz = 1 from rfl, Nat.mul_one] at hv456_0; replace hv456_0 := Option.some.inj (hv456_0.symm.trans hx456_0); rw [hv456_0] at ge456_0; have HL456_0 := Aside0.mk (show Kd.R (Kd.int .i8) 66 _ _ _ _ (rd_L2 t395 t425) from ge456_0); clear hv456_0 ge456_0; clear hcc456 hce456; have HR456_0 := Aside0.mk hi456_0; have HC456_0 := Aside0.mk hl456_0; clear hi456_0 hl456_0; replace p456 := eq_true p456; replace q456 := eq_true q456))
                                                                      go_ret
                                                                      exact ⟨by first | rfl | (simp [errW_none, errW_some] <;> rfl) | (simp [*, errW_none, errW_some] <;> rfl), by repeat (first | (with_reducible first | exact HB.out | apply below_alloc | apply pw_below_drewN | apply below_drew1) | exact HB.out)⟩
                                                                  · rw [if_neg c163] at H
                                                                    exact absurd H (by simp)
                                                            · rw [if_neg c156] at H
                                                              exact absurd H (by simp)
                                                          · rw [if_neg c155] at H
                                                            exact absurd H (by simp)
                                                        · rw [if_neg c154] at H
                                                          have c154b0 : (t454 == 0) = false := beq_eq_false_iff_ne.mpr c154
                                                          have c154b1 : (t454 != 0) = true := bne_iff_ne.mpr c154
                                                          exact absurd (Option.some.inj H) (by rw [hr_]; decide)
                      · rw [if_neg c55] at H
                        exact absurd H (by simp)
                    · rw [if_neg c54] at H
                      exact absurd H (by simp)
                  · rw [if_neg c52] at H
                    exact absurd H (by simp)

/-- THE ONE PURE STATEMENT of laws_FnPlaces: yours. -/
def laws_FnPlaces.Pure : Prop := ∀ (l0 : List Int) (l1 : List Int), l0.length ≤ maxLen → l0.length * 1 ≤ 140737488351232 → (∀ x ∈ l0, (Lit.int .u8 x).wf = true) → l1.length ≤ maxLen → l1.length * 1 ≤ 140737488351232 → (∀ x ∈ l1, (Lit.int .u8 x).wf = true) → ∃ k, laws_FnPlaces.f k l0 l1 = some true
theorem laws_FnPlaces.walk (P : laws_FnPlaces.Pure) (a0 : Option Addr) (len0 cap0 : Nat) (z0 : List Int) (a1 : Option Addr) (len1 cap1 : Nat) (z1 : List Int) (w : World) (hLaidErr_ : LaidErr w) (hLaidMax_ : LaidMax w) (hLaidPow_ : LaidPow w) (w0 : (a0 = none ∧ len0 = 0 ∧ cap0 = 0 ∧ z0 = []) ∨ ∃ x, a0 = some x ∧ len0 ≤ cap0 ∧ cap0 ≤ maxLen ∧ z0.length = cap0 ∧ (∀ i, i < z0.length → w.cell? (x.add i) = some (.int .u8 (z0.getD i 0))) ∧ ∀ n ∈ z0, (Lit.int .u8 n).wf = true) (y0 : len0 * 1 ≤ 140737488351232) (w1 : (a1 = none ∧ len1 = 0 ∧ cap1 = 0 ∧ z1 = []) ∨ ∃ x, a1 = some x ∧ len1 ≤ cap1 ∧ cap1 ≤ maxLen ∧ z1.length = cap1 ∧ (∀ i, i < z1.length → w.cell? (x.add i) = some (.int .u8 (z1.getD i 0))) ∧ ∀ n ∈ z1, (Lit.int .u8 n).wf = true) (y1 : len1 * 1 ≤ 140737488351232) :
    Calls Tryz.prog 3 #[.slice a0 len0 cap0, .slice a1 len1 cap1] w fun e w' => e = .returned (.bool true) ∧ Below w.heap.size w w' := by
  obtain ⟨l0, rfl, hr0, hm0, hw0, hc0⟩ := ReadsInt.ofRowC w0
  obtain ⟨l1, rfl, hr1, hm1, hw1, hc1⟩ := ReadsInt.ofRowC w1
  obtain ⟨k, h⟩ := P l0 l1 hm0 y0 hw0 hm1 y1 hw1
  refine (laws_FnPlaces.calls k _ _ l0 _ _ l1 true w (Kd.C_of_reads (d := (0 : Int)) (h1 := fun _ => rfl) hr0) hc0 (Kd.C_of_reads (d := (0 : Int)) (h1 := fun _ => rfl) hr1) hc1 hLaidErr_ hLaidMax_ hLaidPow_ rfl h).mono ?_
  rintro e w' ⟨rfl, hd⟩
  exact ⟨rfl, hd⟩

end Go.Proofs.YtojjakjpdkpmiaaGreatDoor.QFnPlaces
