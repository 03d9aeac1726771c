/- Written by the session's own program (wip/myprint.py), for the law FnOctals: each function as a plain Lean function, and its contract. -/
import Derived.Test.YteinllalhiflcaaQFnOctalsx0
import Derived.Test.YteinllalhiflcaaQFnOctalsx1
import Derived.Test.YteinllalhiflcaaQFnOctalsx2
import Derived.Test.YteinllalhiflcaaQFnOctalsx3
import Derived.Test.YteinllalhiflcaaQFnOctalsx4
import Derived.Test.YteinllalhiflcaaQFnOctalsx5
import Derived.Test.YteinllalhiflcaaQFnOctalsx6
namespace Go.Proofs.Yteinllalhiflcaa.QFnOctals
open Go.RowKit Go.Proofs.YteinllalhiflcaaW.PrintWords Go.Proofs.YteinllalhiflcaaW.PrintLast Go.Proofs.YteinllalhiflcaaW.PrintMore
attribute [local go_sem] max2_int min2_int max_two min_two max_three min_three max_four min_four   -- for this text's walks alone
set_option linter.unusedVariables false
set_option linter.unusedSimpArgs false

attribute [local go_sem high] eqA46
/-! ### laws_FnOctals: function 9 -/
mutual
def laws_FnOctals.j0 : Nat → List Int → List Int → Bool → Option (Bool)
  | 0, _, _, _ => none
  | k + 1, x0, x1, x32 => if x32 = true then (some true) else ((spec_P6Octal.f k x0).bind fun t240 => ((spec_P6Pick.f x1 30).bind fun t243 => ((impl_OctalValues.f k t240 t243).bind fun bt244 => ((spec_OctalValues.f k t240 t243).bind fun bt248 => ((impl_OctalMoves.f k t240 t243).bind fun bt252 => ((spec_OctalMoves.f k t240 t243).bind fun bt256 => (if bt244.2 = bt248.2 then (if bt244.2 = 0 then ((spec_SameNims.f k bt244.1 bt248.1).bind fun t260 => (if t260 = true then (if (bt248.1.length : Int) = (wrap64 (t243 + 1)) then (if bt252.2 = bt256.2 then (if bt252.2 = 0 then ((spec_SamePairs.f k bt252.1 bt256.1).bind fun t261 => (laws_FnOctals.j1 k x1 t240 t243 bt248.1 bt256.1 (!t261))) else (laws_FnOctals.j1 k x1 t240 t243 bt248.1 bt256.1 true)) else (laws_FnOctals.j1 k x1 t240 t243 bt248.1 bt256.1 true)) else (laws_FnOctals.j1 k x1 t240 t243 bt248.1 bt256.1 true)) else (laws_FnOctals.j1 k x1 t240 t243 bt248.1 bt256.1 true))) else (laws_FnOctals.j1 k x1 t240 t243 bt248.1 bt256.1 true)) else (laws_FnOctals.j1 k x1 t240 t243 bt248.1 bt256.1 true))))))))
def laws_FnOctals.j1 : Nat → List Int → List Int → Int → List Int → List (S46) → Bool → Option (Bool)
  | 0, _, _, _, _, _, _ => none
  | k + 1, x1, x5, x6, x9, x13, x95 => if x95 = true then (some false) else (laws_FnOctals.l0 k x1 x5 x6 x9 x13 (([] : List Int)) 0)
def laws_FnOctals.l0 : Nat → List Int → List Int → Int → List Int → List (S46) → List Int → Int → Option (Bool)
  | 0, _, _, _, _, _, _, _ => none
  | k + 1, x1, x5, x6, x9, x13, x15, x16 => if x16 < (x13.length : Int) then (if 0 ≤ x16 then (if ((rd_T46 x13 x16).f0) < 0 then (some false) else (if ((rd_T46 x13 x16).f1) < ((rd_T46 x13 x16).f0) then (some false) else (if (wrap64 (((rd_T46 x13 x16).f0) + ((rd_T46 x13 x16).f1))) ≥ x6 then (some false) else (if (wrap64 ((wrap64 (x6 - ((rd_T46 x13 x16).f0))) - ((rd_T46 x13 x16).f1))) > (x5.length : Int) then (some false) else (if 0 ≤ ((rd_T46 x13 x16).f0) then (if ((rd_T46 x13 x16).f0) < (x9.length : Int) then (if 0 ≤ ((rd_T46 x13 x16).f1) then (if ((rd_T46 x13 x16).f1) < (x9.length : Int) then ((impl_PlusNim.f (rd x9 ((rd_T46 x13 x16).f0)) (rd x9 ((rd_T46 x13 x16).f1))).bind fun t269 => (if x15.length < 70368744177664 then (laws_FnOctals.l0 k x1 x5 x6 x9 x13 (x15 ++ [t269]) (wrap64 (x16 + 1))) else (none))) else (none)) else (none)) else (none)) else (none)))))) else (none)) else ((impl_ExcludedBy.f k x15).bind fun bt273 => (if bt273.2 = 0 then (if 0 ≤ x6 then (if x6 < (x9.length : Int) then (laws_FnOctals.j3 k x1 x5 x6 x13 (bt273.1 != (wrap64 (rd x9 x6)))) else (none)) else (none)) else (laws_FnOctals.j3 k x1 x5 x6 x13 true)))
def laws_FnOctals.j3 : Nat → List Int → List Int → Int → List (S46) → Bool → Option (Bool)
  | 0, _, _, _, _, _ => none
  | k + 1, x1, x5, x6, x13, x164 => if x164 = true then (some false) else (laws_FnOctals.l1 k x1 x5 x6 x13 (([] : List Int)) 0)
def laws_FnOctals.l1 : Nat → List Int → List Int → Int → List (S46) → List Int → Int → Option (Bool)
  | 0, _, _, _, _, _, _ => none
  | k + 1, x1, x5, x6, x13, x21, x22 => if x22 < (x5.length : Int) then (if 0 ≤ x22 then ((spec_P6Pick.f x1 8).bind fun t280 => (if x21.length < 140737488355328 then (laws_FnOctals.l1 k x1 x5 x6 x13 (x21 ++ [Go.bits .or .u8 (rd x5 x22) ((t280) % 256)]) (wrap64 (x22 + 1))) else (none))) else (none)) else ((impl_OctalMoves.f k x21 x6).bind fun bt284 => (if bt284.2 = 0 then (laws_FnOctals.j5 k x13 bt284.1 (decide ((bt284.1.length : Int) < (x13.length : Int)))) else (laws_FnOctals.j5 k x13 bt284.1 true)))
def laws_FnOctals.j5 : Nat → List (S46) → List (S46) → Bool → Option (Bool)
  | 0, _, _, _ => none
  | k + 1, x13, x23, x197 => if x197 = true then (some false) else (laws_FnOctals.l2 k x13 x23 0 0)
def laws_FnOctals.l2 : Nat → List (S46) → List (S46) → Int → Int → Option (Bool)
  | 0, _, _, _, _ => none
  | k + 1, x13, x23, x25, x26 => if x26 < (x13.length : Int) then (laws_FnOctals.l3 k x13 x23 x25 x26) else (some true)
def laws_FnOctals.l3 : Nat → List (S46) → List (S46) → Int → Int → Option (Bool)
  | 0, _, _, _, _ => none
  | k + 1, x13, x23, x25, x26 => if x25 < (x23.length : Int) then (if 0 ≤ x25 then (if 0 ≤ x26 then (if x26 < (x13.length : Int) then (if (!(((rd_T46 x23 x25).f0) == ((rd_T46 x13 x26).f0)) || (!(((rd_T46 x23 x25).f1) == ((rd_T46 x13 x26).f1)))) = true then (laws_FnOctals.l3 k x13 x23 (wrap64 (x25 + 1)) x26) else (if x25 = (x23.length : Int) then (some false) else (laws_FnOctals.l2 k x13 x23 x25 (wrap64 (x26 + 1))))) else (none)) else (none)) else (none)) else (if x25 = (x23.length : Int) then (some false) else (laws_FnOctals.l2 k x13 x23 x25 (wrap64 (x26 + 1))))
end
def laws_FnOctals.f (k : Nat) (l0 : List Int) (l1 : List Int) : Option (Bool) := (laws_f6big.f l0).bind fun t238 => (if t238 = true then (laws_FnOctals.j0 k l0 l1 true) else ((laws_f6big.f l1).bind fun t239 => (laws_FnOctals.j0 k l0 l1 t239)))
theorem laws_FnOctals.mono_l : ∀ k, (∀ y0 y1 y2, LeO (laws_FnOctals.j0 k y0 y1 y2) (laws_FnOctals.j0 (k + 1) y0 y1 y2)) ∧ (∀ y0 y1 y2 y3 y4 y5, LeO (laws_FnOctals.j1 k y0 y1 y2 y3 y4 y5) (laws_FnOctals.j1 (k + 1) y0 y1 y2 y3 y4 y5)) ∧ (∀ y0 y1 y2 y3 y4 y5 y6, LeO (laws_FnOctals.l0 k y0 y1 y2 y3 y4 y5 y6) (laws_FnOctals.l0 (k + 1) y0 y1 y2 y3 y4 y5 y6)) ∧ (∀ y0 y1 y2 y3 y4, LeO (laws_FnOctals.j3 k y0 y1 y2 y3 y4) (laws_FnOctals.j3 (k + 1) y0 y1 y2 y3 y4)) ∧ (∀ y0 y1 y2 y3 y4 y5, LeO (laws_FnOctals.l1 k y0 y1 y2 y3 y4 y5) (laws_FnOctals.l1 (k + 1) y0 y1 y2 y3 y4 y5)) ∧ (∀ y0 y1 y2, LeO (laws_FnOctals.j5 k y0 y1 y2) (laws_FnOctals.j5 (k + 1) y0 y1 y2)) ∧ (∀ y0 y1 y2 y3, LeO (laws_FnOctals.l2 k y0 y1 y2 y3) (laws_FnOctals.l2 (k + 1) y0 y1 y2 y3)) ∧ (∀ y0 y1 y2 y3, LeO (laws_FnOctals.l3 k y0 y1 y2 y3) (laws_FnOctals.l3 (k + 1) y0 y1 y2 y3))
  | 0 => ⟨fun _ _ _ r h => by simp [laws_FnOctals.j0] at h, fun _ _ _ _ _ _ r h => by simp [laws_FnOctals.j1] at h, fun _ _ _ _ _ _ _ r h => by simp [laws_FnOctals.l0] at h, fun _ _ _ _ _ r h => by simp [laws_FnOctals.j3] at h, fun _ _ _ _ _ _ r h => by simp [laws_FnOctals.l1] at h, fun _ _ _ r h => by simp [laws_FnOctals.j5] at h, fun _ _ _ _ r h => by simp [laws_FnOctals.l2] at h, fun _ _ _ _ r h => by simp [laws_FnOctals.l3] at h⟩
  | k + 1 => by
    obtain ⟨ih0, ih1, ih2, ih3, ih4, ih5, ih6, ih7⟩ := laws_FnOctals.mono_l k
    refine ⟨?_, ?_, ?_, ?_, ?_, ?_, ?_, ?_⟩
    · intro y0 y1 y2
      unfold laws_FnOctals.j0
      repeat' first
      | (with_reducible exact ih0 _ _ _)
      | (with_reducible exact ih1 _ _ _ _ _ _)
      | (with_reducible exact ih2 _ _ _ _ _ _ _)
      | (with_reducible exact ih3 _ _ _ _ _)
      | (with_reducible exact ih4 _ _ _ _ _ _)
      | (with_reducible exact ih5 _ _ _)
      | (with_reducible exact ih6 _ _ _ _)
      | (with_reducible exact ih7 _ _ _ _)
      | (with_reducible exact impl_ExcludedBy.mono _ _)
      | (with_reducible exact impl_OctalMoves.mono _ _ _)
      | (with_reducible exact impl_OctalValues.mono _ _ _)
      | (with_reducible exact spec_OctalMoves.mono _ _ _)
      | (with_reducible exact spec_OctalValues.mono _ _ _)
      | (with_reducible exact spec_P6Octal.mono _ _)
      | (with_reducible exact spec_SameNims.mono _ _ _)
      | (with_reducible exact spec_SamePairs.mono _ _ _)
      | (with_reducible exact LeO.refl _)
      | (with_reducible exact LeO.none _)
      | (with_reducible refine LeO.ite ?_ ?_)
      | (with_reducible refine LeO.bind ?_ (fun _ => ?_))
      | exact ih0 _ _ _
      | exact ih1 _ _ _ _ _ _
      | exact ih2 _ _ _ _ _ _ _
      | exact ih3 _ _ _ _ _
      | exact ih4 _ _ _ _ _ _
      | exact ih5 _ _ _
      | exact ih6 _ _ _ _
      | exact ih7 _ _ _ _
      | exact impl_ExcludedBy.mono _ _
      | exact impl_OctalMoves.mono _ _ _
      | exact impl_OctalValues.mono _ _ _
      | exact spec_OctalMoves.mono _ _ _
      | exact spec_OctalValues.mono _ _ _
      | exact spec_P6Octal.mono _ _
      | exact spec_SameNims.mono _ _ _
      | exact spec_SamePairs.mono _ _ _
      | exact LeO.none _
      | refine LeO.ite ?_ ?_
      | refine LeO.bind ?_ (fun _ => ?_)
    · intro y0 y1 y2 y3 y4 y5
      unfold laws_FnOctals.j1
      repeat' first
      | (with_reducible exact ih0 _ _ _)
      | (with_reducible exact ih1 _ _ _ _ _ _)
      | (with_reducible exact ih2 _ _ _ _ _ _ _)
      | (with_reducible exact ih3 _ _ _ _ _)
      | (with_reducible exact ih4 _ _ _ _ _ _)
      | (with_reducible exact ih5 _ _ _)
      | (with_reducible exact ih6 _ _ _ _)
      | (with_reducible exact ih7 _ _ _ _)
      | (with_reducible exact impl_ExcludedBy.mono _ _)
      | (with_reducible exact impl_OctalMoves.mono _ _ _)
      | (with_reducible exact impl_OctalValues.mono _ _ _)
      | (with_reducible exact spec_OctalMoves.mono _ _ _)
      | (with_reducible exact spec_OctalValues.mono _ _ _)
      | (with_reducible exact spec_P6Octal.mono _ _)
      | (with_reducible exact spec_SameNims.mono _ _ _)
      | (with_reducible exact spec_SamePairs.mono _ _ _)
      | (with_reducible exact LeO.refl _)
      | (with_reducible exact LeO.none _)
      | (with_reducible refine LeO.ite ?_ ?_)
      | (with_reducible refine LeO.bind ?_ (fun _ => ?_))
      | exact ih0 _ _ _
      | exact ih1 _ _ _ _ _ _
      | exact ih2 _ _ _ _ _ _ _
      | exact ih3 _ _ _ _ _
      | exact ih4 _ _ _ _ _ _
      | exact ih5 _ _ _
      | exact ih6 _ _ _ _
      | exact ih7 _ _ _ _
      | exact impl_ExcludedBy.mono _ _
      | exact impl_OctalMoves.mono _ _ _
      | exact impl_OctalValues.mono _ _ _
      | exact spec_OctalMoves.mono _ _ _
      | exact spec_OctalValues.mono _ _ _
      | exact spec_P6Octal.mono _ _
      | exact spec_SameNims.mono _ _ _
      | exact spec_SamePairs.mono _ _ _
      | exact LeO.none _
      | refine LeO.ite ?_ ?_
      | refine LeO.bind ?_ (fun _ => ?_)
    · intro y0 y1 y2 y3 y4 y5 y6
      unfold laws_FnOctals.l0
      repeat' first
      | (with_reducible exact ih0 _ _ _)
      | (with_reducible exact ih1 _ _ _ _ _ _)
      | (with_reducible exact ih2 _ _ _ _ _ _ _)
      | (with_reducible exact ih3 _ _ _ _ _)
      | (with_reducible exact ih4 _ _ _ _ _ _)
      | (with_reducible exact ih5 _ _ _)
      | (with_reducible exact ih6 _ _ _ _)
      | (with_reducible exact ih7 _ _ _ _)
      | (with_reducible exact impl_ExcludedBy.mono _ _)
      | (with_reducible exact impl_OctalMoves.mono _ _ _)
      | (with_reducible exact impl_OctalValues.mono _ _ _)
      | (with_reducible exact spec_OctalMoves.mono _ _ _)
      | (with_reducible exact spec_OctalValues.mono _ _ _)
      | (with_reducible exact spec_P6Octal.mono _ _)
      | (with_reducible exact spec_SameNims.mono _ _ _)
      | (with_reducible exact spec_SamePairs.mono _ _ _)
      | (with_reducible exact LeO.refl _)
      | (with_reducible exact LeO.none _)
      | (with_reducible refine LeO.ite ?_ ?_)
      | (with_reducible refine LeO.bind ?_ (fun _ => ?_))
      | exact ih0 _ _ _
      | exact ih1 _ _ _ _ _ _
      | exact ih2 _ _ _ _ _ _ _
      | exact ih3 _ _ _ _ _
      | exact ih4 _ _ _ _ _ _
      | exact ih5 _ _ _
      | exact ih6 _ _ _ _
      | exact ih7 _ _ _ _
      | exact impl_ExcludedBy.mono _ _
      | exact impl_OctalMoves.mono _ _ _
      | exact impl_OctalValues.mono _ _ _
      | exact spec_OctalMoves.mono _ _ _
      | exact spec_OctalValues.mono _ _ _
      | exact spec_P6Octal.mono _ _
      | exact spec_SameNims.mono _ _ _
      | exact spec_SamePairs.mono _ _ _
      | exact LeO.none _
      | refine LeO.ite ?_ ?_
      | refine LeO.bind ?_ (fun _ => ?_)
    · intro y0 y1 y2 y3 y4
      unfold laws_FnOctals.j3
      repeat' first
      | (with_reducible exact ih0 _ _ _)
      | (with_reducible exact ih1 _ _ _ _ _ _)
      | (with_reducible exact ih2 _ _ _ _ _ _ _)
      | (with_reducible exact ih3 _ _ _ _ _)
      | (with_reducible exact ih4 _ _ _ _ _ _)
      | (with_reducible exact ih5 _ _ _)
      | (with_reducible exact ih6 _ _ _ _)
      | (with_reducible exact ih7 _ _ _ _)
      | (with_reducible exact impl_ExcludedBy.mono _ _)
      | (with_reducible exact impl_OctalMoves.mono _ _ _)
      | (with_reducible exact impl_OctalValues.mono _ _ _)
      | (with_reducible exact spec_OctalMoves.mono _ _ _)
      | (with_reducible exact spec_OctalValues.mono _ _ _)
      | (with_reducible exact spec_P6Octal.mono _ _)
      | (with_reducible exact spec_SameNims.mono _ _ _)
      | (with_reducible exact spec_SamePairs.mono _ _ _)
      | (with_reducible exact LeO.refl _)
      | (with_reducible exact LeO.none _)
      | (with_reducible refine LeO.ite ?_ ?_)
      | (with_reducible refine LeO.bind ?_ (fun _ => ?_))
      | exact ih0 _ _ _
      | exact ih1 _ _ _ _ _ _
      | exact ih2 _ _ _ _ _ _ _
      | exact ih3 _ _ _ _ _
      | exact ih4 _ _ _ _ _ _
      | exact ih5 _ _ _
      | exact ih6 _ _ _ _
      | exact ih7 _ _ _ _
      | exact impl_ExcludedBy.mono _ _
      | exact impl_OctalMoves.mono _ _ _
      | exact impl_OctalValues.mono _ _ _
      | exact spec_OctalMoves.mono _ _ _
      | exact spec_OctalValues.mono _ _ _
      | exact spec_P6Octal.mono _ _
      | exact spec_SameNims.mono _ _ _
      | exact spec_SamePairs.mono _ _ _
      | exact LeO.none _
      | refine LeO.ite ?_ ?_
      | refine LeO.bind ?_ (fun _ => ?_)
    · intro y0 y1 y2 y3 y4 y5
      unfold laws_FnOctals.l1
      repeat' first
      | (with_reducible exact ih0 _ _ _)
      | (with_reducible exact ih1 _ _ _ _ _ _)
      | (with_reducible exact ih2 _ _ _ _ _ _ _)
      | (with_reducible exact ih3 _ _ _ _ _)
      | (with_reducible exact ih4 _ _ _ _ _ _)
      | (with_reducible exact ih5 _ _ _)
      | (with_reducible exact ih6 _ _ _ _)
      | (with_reducible exact ih7 _ _ _ _)
      | (with_reducible exact impl_ExcludedBy.mono _ _)
      | (with_reducible exact impl_OctalMoves.mono _ _ _)
      | (with_reducible exact impl_OctalValues.mono _ _ _)
      | (with_reducible exact spec_OctalMoves.mono _ _ _)
      | (with_reducible exact spec_OctalValues.mono _ _ _)
      | (with_reducible exact spec_P6Octal.mono _ _)
      | (with_reducible exact spec_SameNims.mono _ _ _)
      | (with_reducible exact spec_SamePairs.mono _ _ _)
      | (with_reducible exact LeO.refl _)
      | (with_reducible exact LeO.none _)
      | (with_reducible refine LeO.ite ?_ ?_)
      | (with_reducible refine LeO.bind ?_ (fun _ => ?_))
      | exact ih0 _ _ _
      | exact ih1 _ _ _ _ _ _
      | exact ih2 _ _ _ _ _ _ _
      | exact ih3 _ _ _ _ _
      | exact ih4 _ _ _ _ _ _
      | exact ih5 _ _ _
      | exact ih6 _ _ _ _
      | exact ih7 _ _ _ _
      | exact impl_ExcludedBy.mono _ _
      | exact impl_OctalMoves.mono _ _ _
      | exact impl_OctalValues.mono _ _ _
      | exact spec_OctalMoves.mono _ _ _
      | exact spec_OctalValues.mono _ _ _
      | exact spec_P6Octal.mono _ _
      | exact spec_SameNims.mono _ _ _
      | exact spec_SamePairs.mono _ _ _
      | exact LeO.none _
      | refine LeO.ite ?_ ?_
      | refine LeO.bind ?_ (fun _ => ?_)
    · intro y0 y1 y2
      unfold laws_FnOctals.j5
      repeat' first
      | (with_reducible exact ih0 _ _ _)
      | (with_reducible exact ih1 _ _ _ _ _ _)
      | (with_reducible exact ih2 _ _ _ _ _ _ _)
      | (with_reducible exact ih3 _ _ _ _ _)
      | (with_reducible exact ih4 _ _ _ _ _ _)
      | (with_reducible exact ih5 _ _ _)
      | (with_reducible exact ih6 _ _ _ _)
      | (with_reducible exact ih7 _ _ _ _)
      | (with_reducible exact impl_ExcludedBy.mono _ _)
      | (with_reducible exact impl_OctalMoves.mono _ _ _)
      | (with_reducible exact impl_OctalValues.mono _ _ _)
      | (with_reducible exact spec_OctalMoves.mono _ _ _)
      | (with_reducible exact spec_OctalValues.mono _ _ _)
      | (with_reducible exact spec_P6Octal.mono _ _)
      | (with_reducible exact spec_SameNims.mono _ _ _)
      | (with_reducible exact spec_SamePairs.mono _ _ _)
      | (with_reducible exact LeO.refl _)
      | (with_reducible exact LeO.none _)
      | (with_reducible refine LeO.ite ?_ ?_)
      | (with_reducible refine LeO.bind ?_ (fun _ => ?_))
      | exact ih0 _ _ _
      | exact ih1 _ _ _ _ _ _
      | exact ih2 _ _ _ _ _ _ _
      | exact ih3 _ _ _ _ _
      | exact ih4 _ _ _ _ _ _
      | exact ih5 _ _ _
      | exact ih6 _ _ _ _
      | exact ih7 _ _ _ _
      | exact impl_ExcludedBy.mono _ _
      | exact impl_OctalMoves.mono _ _ _
      | exact impl_OctalValues.mono _ _ _
      | exact spec_OctalMoves.mono _ _ _
      | exact spec_OctalValues.mono _ _ _
      | exact spec_P6Octal.mono _ _
      | exact spec_SameNims.mono _ _ _
      | exact spec_SamePairs.mono _ _ _
      | exact LeO.none _
      | refine LeO.ite ?_ ?_
      | refine LeO.bind ?_ (fun _ => ?_)
    · intro y0 y1 y2 y3
      unfold laws_FnOctals.l2
      repeat' first
      | (with_reducible exact ih0 _ _ _)
      | (with_reducible exact ih1 _ _ _ _ _ _)
      | (with_reducible exact ih2 _ _ _ _ _ _ _)
      | (with_reducible exact ih3 _ _ _ _ _)
      | (with_reducible exact ih4 _ _ _ _ _ _)
      | (with_reducible exact ih5 _ _ _)
      | (with_reducible exact ih6 _ _ _ _)
      | (with_reducible exact ih7 _ _ _ _)
      | (with_reducible exact impl_ExcludedBy.mono _ _)
      | (with_reducible exact impl_OctalMoves.mono _ _ _)
      | (with_reducible exact impl_OctalValues.mono _ _ _)
      | (with_reducible exact spec_OctalMoves.mono _ _ _)
      | (with_reducible exact spec_OctalValues.mono _ _ _)
      | (with_reducible exact spec_P6Octal.mono _ _)
      | (with_reducible exact spec_SameNims.mono _ _ _)
      | (with_reducible exact spec_SamePairs.mono _ _ _)
      | (with_reducible exact LeO.refl _)
      | (with_reducible exact LeO.none _)
      | (with_reducible refine LeO.ite ?_ ?_)
      | (with_reducible refine LeO.bind ?_ (fun _ => ?_))
      | exact ih0 _ _ _
      | exact ih1 _ _ _ _ _ _
      | exact ih2 _ _ _ _ _ _ _
      | exact ih3 _ _ _ _ _
      | exact ih4 _ _ _ _ _ _
      | exact ih5 _ _ _
      | exact ih6 _ _ _ _
      | exact ih7 _ _ _ _
      | exact impl_ExcludedBy.mono _ _
      | exact impl_OctalMoves.mono _ _ _
      | exact impl_OctalValues.mono _ _ _
      | exact spec_OctalMoves.mono _ _ _
      | exact spec_OctalValues.mono _ _ _
      | exact spec_P6Octal.mono _ _
      | exact spec_SameNims.mono _ _ _
      | exact spec_SamePairs.mono _ _ _
      | exact LeO.none _
      | refine LeO.ite ?_ ?_
      | refine LeO.bind ?_ (fun _ => ?_)
    · intro y0 y1 y2 y3
      unfold laws_FnOctals.l3
      repeat' first
      | (with_reducible exact ih0 _ _ _)
      | (with_reducible exact ih1 _ _ _ _ _ _)
      | (with_reducible exact ih2 _ _ _ _ _ _ _)
      | (with_reducible exact ih3 _ _ _ _ _)
      | (with_reducible exact ih4 _ _ _ _ _ _)
      | (with_reducible exact ih5 _ _ _)
      | (with_reducible exact ih6 _ _ _ _)
      | (with_reducible exact ih7 _ _ _ _)
      | (with_reducible exact impl_ExcludedBy.mono _ _)
      | (with_reducible exact impl_OctalMoves.mono _ _ _)
      | (with_reducible exact impl_OctalValues.mono _ _ _)
      | (with_reducible exact spec_OctalMoves.mono _ _ _)
      | (with_reducible exact spec_OctalValues.mono _ _ _)
      | (with_reducible exact spec_P6Octal.mono _ _)
      | (with_reducible exact spec_SameNims.mono _ _ _)
      | (with_reducible exact spec_SamePairs.mono _ _ _)
      | (with_reducible exact LeO.refl _)
      | (with_reducible exact LeO.none _)
      | (with_reducible refine LeO.ite ?_ ?_)
      | (with_reducible refine LeO.bind ?_ (fun _ => ?_))
      | exact ih0 _ _ _
      | exact ih1 _ _ _ _ _ _
      | exact ih2 _ _ _ _ _ _ _
      | exact ih3 _ _ _ _ _
      | exact ih4 _ _ _ _ _ _
      | exact ih5 _ _ _
      | exact ih6 _ _ _ _
      | exact ih7 _ _ _ _
      | exact impl_ExcludedBy.mono _ _
      | exact impl_OctalMoves.mono _ _ _
      | exact impl_OctalValues.mono _ _ _
      | exact spec_OctalMoves.mono _ _ _
      | exact spec_OctalValues.mono _ _ _
      | exact spec_P6Octal.mono _ _
      | exact spec_SameNims.mono _ _ _
      | exact spec_SamePairs.mono _ _ _
      | exact LeO.none _
      | refine LeO.ite ?_ ?_
      | refine LeO.bind ?_ (fun _ => ?_)
theorem laws_FnOctals.mono : ∀ a0 a1 k, LeO (laws_FnOctals.f k a0 a1) (laws_FnOctals.f (k + 1) a0 a1) := by
  intro a0 a1 k
  obtain ⟨ih0, ih1, ih2, ih3, ih4, ih5, ih6, ih7⟩ := laws_FnOctals.mono_l k
  unfold laws_FnOctals.f
  repeat' first
      | (with_reducible exact ih0 _ _ _)
      | (with_reducible exact ih1 _ _ _ _ _ _)
      | (with_reducible exact ih2 _ _ _ _ _ _ _)
      | (with_reducible exact ih3 _ _ _ _ _)
      | (with_reducible exact ih4 _ _ _ _ _ _)
      | (with_reducible exact ih5 _ _ _)
      | (with_reducible exact ih6 _ _ _ _)
      | (with_reducible exact ih7 _ _ _ _)
      | (with_reducible exact impl_ExcludedBy.mono _ _)
      | (with_reducible exact impl_OctalMoves.mono _ _ _)
      | (with_reducible exact impl_OctalValues.mono _ _ _)
      | (with_reducible exact spec_OctalMoves.mono _ _ _)
      | (with_reducible exact spec_OctalValues.mono _ _ _)
      | (with_reducible exact spec_P6Octal.mono _ _)
      | (with_reducible exact spec_SameNims.mono _ _ _)
      | (with_reducible exact spec_SamePairs.mono _ _ _)
      | (with_reducible exact LeO.refl _)
      | (with_reducible exact LeO.none _)
      | (with_reducible refine LeO.ite ?_ ?_)
      | (with_reducible refine LeO.bind ?_ (fun _ => ?_))
      | exact ih0 _ _ _
      | exact ih1 _ _ _ _ _ _
      | exact ih2 _ _ _ _ _ _ _
      | exact ih3 _ _ _ _ _
      | exact ih4 _ _ _ _ _ _
      | exact ih5 _ _ _
      | exact ih6 _ _ _ _
      | exact ih7 _ _ _ _
      | exact impl_ExcludedBy.mono _ _
      | exact impl_OctalMoves.mono _ _ _
      | exact impl_OctalValues.mono _ _ _
      | exact spec_OctalMoves.mono _ _ _
      | exact spec_OctalValues.mono _ _ _
      | exact spec_P6Octal.mono _ _
      | exact spec_SameNims.mono _ _ _
      | exact spec_SamePairs.mono _ _ _
      | exact LeO.none _
      | refine LeO.ite ?_ ?_
      | refine LeO.bind ?_ (fun _ => ?_)
def laws_FnOctals.T19 : Bool × List (List Nat × List Nat) := (true, [([], []), ([], []), ([], []), ([1, 2], [1, 2]), ([3], [3]), ([], []), ([], []), ([5, 6], [5, 6]), ([7], [7]), ([4, 8], [4, 8]), ([9], [9]), ([0, 10, 9], [0, 10]), ([11, 11, 0, 1, 2, 3, 4, 5, 6, 7, 8, 9, 10, 11], [0, 11])])
def laws_FnOctals.B19 : List Nat := [0, 0, 0, 6, 14, 0, 0, 96, 224, 510, 1022, 2047, 4095]
theorem laws_FnOctals.tab19 : rtab .any (opsOf Try.f9 19) = laws_FnOctals.T19 := by kernel_rfl
theorem laws_FnOctals.bits19 : waitsOk laws_FnOctals.T19.2 laws_FnOctals.B19 = true := by kernel_rfl
def laws_FnOctals.T27 : Bool × List (List Nat × List Nat) := (true, [([], []), ([], []), ([], []), ([1, 2], [1, 2]), ([3], [3]), ([], []), ([5], [5]), ([6], [6]), ([4, 7], [4, 7]), ([8], [8]), ([0, 9, 6], [0, 9]), ([10, 10, 0, 1, 2, 3, 4, 5, 6, 7, 8, 9, 10], [0, 10])])
def laws_FnOctals.B27 : List Nat := [0, 0, 0, 6, 14, 0, 32, 96, 254, 510, 1023, 2047]
theorem laws_FnOctals.tab27 : rtab .any (opsOf Try.f9 27) = laws_FnOctals.T27 := by kernel_rfl
theorem laws_FnOctals.bits27 : waitsOk laws_FnOctals.T27.2 laws_FnOctals.B27 = true := by kernel_rfl
def laws_FnOctals.T35 : Bool × List (List Nat × List Nat) := (true, [([], []), ([], []), ([1], [1]), ([0, 2], [0, 2]), ([3], [3]), ([4], [4]), ([4], [4]), ([5, 6, 4], [4, 5, 6]), ([7, 4], [4, 7]), ([4], [4]), ([4], [4]), ([9, 10, 4], [4, 9, 10]), ([11, 4], [4, 11]), ([8, 12, 4], [4, 8, 12]), ([4, 13], [4, 13])])
def laws_FnOctals.B35 : List Nat := [0, 0, 2, 7, 15, 31, 31, 127, 255, 31, 31, 1567, 3615, 8191, 16383]
theorem laws_FnOctals.tab35 : rtab .any (opsOf Try.f9 35) = laws_FnOctals.T35 := by kernel_rfl
theorem laws_FnOctals.bits35 : waitsOk laws_FnOctals.T35.2 laws_FnOctals.B35 = true := by kernel_rfl
set_option maxHeartbeats 8000000 in
set_option maxRecDepth 100000 in
theorem laws_FnOctals.calls (k : Nat) (A0 : Option Addr) (c0 : Nat) (l0 : List Int) (A1 : Option Addr) (c1 : Nat) (l1 : List Int) (r : Bool) (w : World) (hr0 : Kd.C (Kd.int .u8) w A0 l0.length l0) (hc0 : l0.length ≤ c0) (hr1 : Kd.C (Kd.int .u8) w A1 l1.length l1) (hc1 : l1.length ≤ c1) (h : laws_FnOctals.f k l0 l1 = some r) :
    Calls Try.prog 9 #[.slice A0 l0.length c0, .slice A1 l1.length c1] w fun e w' => e = .returned (.bool r) ∧ Below w.heap.size w w' := by
  have hu46 := Try.underlying46
  have HR0 := Aside0.mk hr0
  have HC0 := Aside0.mk hc0
  clear hr0 hc0
  have HR1 := Aside0.mk hr1
  have HC1 := Aside0.mk hc1
  clear hr1 hc1
  have HB := Aside0.mk (Below.refl w.heap.size w)
  have H : ((laws_f6big.f l0).bind fun t238 => (if t238 = true then (laws_FnOctals.j0 k l0 l1 true) else ((laws_f6big.f l1).bind fun t239 => (laws_FnOctals.j0 k l0 l1 t239)))) = some r := h
  clear h
  have HC3 := Aside0.mk H
  clear H
  go_enter Try.func9, Try.ntmps9
  go_upto_region 1 with (fail)
  go_cut [32] (fun v32 wc => ∃ (kq : Nat) (x32_2 : Bool), v32 = .bool x32_2 ∧ Aside0 (laws_FnOctals.j0 kq l0 l1 x32_2 = some r) ∧ Aside0 (kq ≤ k) ∧ Aside0 (Below w.heap.size w wc))
  case first =>
    as_aux_lemma =>
      have H := HC3.out
      clear HC3
      replace H := Option.bind_eq_some_iff.mp H
      obtain ⟨t238, A40, H⟩ := H
      replace H : (if t238 = true then (laws_FnOctals.j0 k l0 l1 true) else ((laws_f6big.f l1).bind fun t239 => (laws_FnOctals.j0 k l0 l1 t239))) = some r := H
      have A4 := Aside0.mk A40
      clear A40
      by_cases c5 : t238 = true
      · subst c5
        have H1 : (laws_FnOctals.j0 k l0 l1 true) = some r := by rw [if_pos rfl] at H; exact H
        clear H
        have H := H1
        clear H1
        have H' := Aside0.mk H
        clear H
        go_wp2_with (first | ((with_reducible refine gate_callee (f := 18) rfl ?_); refine goesL_ (some 28) rfl rfl Try.func18 (by kernel_rfl) rfl #[.slice A0 l0.length c0] rfl (by (try simp only [List.map_toArray, List.map_cons, List.map_nil]); first | done | rfl | (simp only [List.length_drop, List.length_take]; rfl)) ?_; (with_reducible refine (laws_f6big.calls _ _ l0 true _ ?side1 ?side2 A4.out).mono ?_); (case side1 => repeat (first | exact (Kd.C_below HR0.out HB.out) | (with_reducible refine Kd.C_alloc ?_ _) | (with_reducible refine Kd.C_drewN ?_ _) | (with_reducible refine Kd.C_drew ?_))); (case side2 => exact HC0.out); rintro e w' ⟨rfl, ⟨nd, rfl⟩⟩; refine ⟨_, rfl, ?_⟩))
        go_meet
        case rel => exact ⟨_, (true), (by first | rfl | (simp; done) | (simp [*]; done)), H', ⟨by first | omega | exact Nat.le_refl _⟩, ⟨by repeat (first | (with_reducible first | exact HB.out | apply below_alloc | apply pw_below_drewN | apply below_drew1) | exact HB.out)⟩⟩
      · replace c5 := Bool.eq_false_iff.mpr c5
        subst c5
        have H1 : ((laws_f6big.f l1).bind fun t239 => (laws_FnOctals.j0 k l0 l1 t239)) = some r := by rw [if_neg (show ¬ (false = true) by decide)] at H; exact H
        clear H
        have H := H1
        clear H1
        replace H := Option.bind_eq_some_iff.mp H
        obtain ⟨t239, A60, H⟩ := H
        replace H : (laws_FnOctals.j0 k l0 l1 t239) = some r := H
        have A6 := Aside0.mk A60
        clear A60
        have H' := Aside0.mk H
        clear H
        go_wp2_with (first | ((with_reducible refine gate_callee (f := 18) rfl ?_); refine goesL_ (some 28) rfl rfl Try.func18 (by kernel_rfl) rfl #[.slice A0 l0.length c0] rfl (by (try simp only [List.map_toArray, List.map_cons, List.map_nil]); first | done | rfl | (simp only [List.length_drop, List.length_take]; rfl)) ?_; (with_reducible refine (laws_f6big.calls _ _ l0 false _ ?side1 ?side2 A4.out).mono ?_); (case side1 => repeat (first | exact (Kd.C_below HR0.out HB.out) | (with_reducible refine Kd.C_alloc ?_ _) | (with_reducible refine Kd.C_drewN ?_ _) | (with_reducible refine Kd.C_drew ?_))); (case side2 => exact HC0.out); rintro e w' ⟨rfl, ⟨nd, rfl⟩⟩; refine ⟨_, rfl, ?_⟩) | (go_at_call 18; (with_reducible refine (laws_f6big.calls _ _ l1 t239 _ ?side1 ?side2 A6.out).mono ?_); (case side1 => repeat (first | exact (Kd.C_below HR1.out (by repeat (first | (with_reducible first | exact HB.out | apply below_alloc | apply pw_below_drewN | apply below_drew1) | exact HB.out))) | (with_reducible refine Kd.C_alloc ?_ _) | (with_reducible refine Kd.C_drewN ?_ _) | (with_reducible refine Kd.C_drew ?_))); (case side2 => exact HC1.out); rintro e w' ⟨rfl, ⟨nd, rfl⟩⟩))
        go_meet
        case rel => exact ⟨_, (t239), (by first | rfl | (simp; done) | (simp [*]; done)), H', ⟨by first | omega | exact Nat.le_refl _⟩, ⟨by repeat (first | (with_reducible first | exact HB.out | apply below_alloc | apply pw_below_drewN | apply below_drew1) | exact HB.out)⟩⟩
  case rest =>
    as_aux_lemma =>
      clear HC3
      try clear c1
      try clear p2
      try clear c5
      obtain ⟨kq, x32_2, rfl, HA, HJ2, HB⟩ := hcut
      cases kq with
      | zero => exact absurd HA.out (by simp [laws_FnOctals.j0])
      | succ kj2 =>
        have H := HA.out
        clear HA
        simp only [laws_FnOctals.j0] at H
        by_cases c7 : x32_2 = true
        · subst c7
          have H1 : (some true) = some r := by rw [if_pos rfl] at H; exact H
          clear H
          have H := H1
          clear H1
          obtain rfl := Option.some.inj H
          go_wp2
          go_ret
          exact ⟨by first | rfl | (simp [errW_none, errW_some] <;> rfl) | (simp [*, errW_none, errW_some] <;> rfl), by repeat (first | (with_reducible first | exact HB.out | apply below_alloc | apply pw_below_drewN | apply below_drew1) | exact HB.out)⟩
        · replace c7 := Bool.eq_false_iff.mpr c7
          subst c7
          have H1 : ((spec_P6Octal.f kj2 l0).bind fun t240 => ((spec_P6Pick.f l1 30).bind fun t243 => ((impl_OctalValues.f kj2 t240 t243).bind fun bt244 => ((spec_OctalValues.f kj2 t240 t243).bind fun bt248 => ((impl_OctalMoves.f kj2 t240 t243).bind fun bt252 => ((spec_OctalMoves.f kj2 t240 t243).bind fun bt256 => (if bt244.2 = bt248.2 then (if bt244.2 = 0 then ((spec_SameNims.f kj2 bt244.1 bt248.1).bind fun t260 => (if t260 = true then (if (bt248.1.length : Int) = (wrap64 (t243 + 1)) then (if bt252.2 = bt256.2 then (if bt252.2 = 0 then ((spec_SamePairs.f kj2 bt252.1 bt256.1).bind fun t261 => (laws_FnOctals.j1 kj2 l1 t240 t243 bt248.1 bt256.1 (!t261))) else (laws_FnOctals.j1 kj2 l1 t240 t243 bt248.1 bt256.1 true)) else (laws_FnOctals.j1 kj2 l1 t240 t243 bt248.1 bt256.1 true)) else (laws_FnOctals.j1 kj2 l1 t240 t243 bt248.1 bt256.1 true)) else (laws_FnOctals.j1 kj2 l1 t240 t243 bt248.1 bt256.1 true))) else (laws_FnOctals.j1 kj2 l1 t240 t243 bt248.1 bt256.1 true)) else (laws_FnOctals.j1 kj2 l1 t240 t243 bt248.1 bt256.1 true)))))))) = some r := by rw [if_neg (show ¬ (false = true) by decide)] at H; exact H
          clear H
          have H := H1
          clear H1
          replace H := Option.bind_eq_some_iff.mp H
          obtain ⟨t240, A80, H⟩ := H
          replace H : ((spec_P6Pick.f l1 30).bind fun t243 => ((impl_OctalValues.f kj2 t240 t243).bind fun bt244 => ((spec_OctalValues.f kj2 t240 t243).bind fun bt248 => ((impl_OctalMoves.f kj2 t240 t243).bind fun bt252 => ((spec_OctalMoves.f kj2 t240 t243).bind fun bt256 => (if bt244.2 = bt248.2 then (if bt244.2 = 0 then ((spec_SameNims.f kj2 bt244.1 bt248.1).bind fun t260 => (if t260 = true then (if (bt248.1.length : Int) = (wrap64 (t243 + 1)) then (if bt252.2 = bt256.2 then (if bt252.2 = 0 then ((spec_SamePairs.f kj2 bt252.1 bt256.1).bind fun t261 => (laws_FnOctals.j1 kj2 l1 t240 t243 bt248.1 bt256.1 (!t261))) else (laws_FnOctals.j1 kj2 l1 t240 t243 bt248.1 bt256.1 true)) else (laws_FnOctals.j1 kj2 l1 t240 t243 bt248.1 bt256.1 true)) else (laws_FnOctals.j1 kj2 l1 t240 t243 bt248.1 bt256.1 true)) else (laws_FnOctals.j1 kj2 l1 t240 t243 bt248.1 bt256.1 true))) else (laws_FnOctals.j1 kj2 l1 t240 t243 bt248.1 bt256.1 true)) else (laws_FnOctals.j1 kj2 l1 t240 t243 bt248.1 bt256.1 true))))))) = some r := H
          have A8 := Aside0.mk A80
          clear A80
          replace H := Option.bind_eq_some_iff.mp H
          obtain ⟨t243, A90, H⟩ := H
          replace H : ((impl_OctalValues.f kj2 t240 t243).bind fun bt244 => ((spec_OctalValues.f kj2 t240 t243).bind fun bt248 => ((impl_OctalMoves.f kj2 t240 t243).bind fun bt252 => ((spec_OctalMoves.f kj2 t240 t243).bind fun bt256 => (if bt244.2 = bt248.2 then (if bt244.2 = 0 then ((spec_SameNims.f kj2 bt244.1 bt248.1).bind fun t260 => (if t260 = true then (if (bt248.1.length : Int) = (wrap64 (t243 + 1)) then (if bt252.2 = bt256.2 then (if bt252.2 = 0 then ((spec_SamePairs.f kj2 bt252.1 bt256.1).bind fun t261 => (laws_FnOctals.j1 kj2 l1 t240 t243 bt248.1 bt256.1 (!t261))) else (laws_FnOctals.j1 kj2 l1 t240 t243 bt248.1 bt256.1 true)) else (laws_FnOctals.j1 kj2 l1 t240 t243 bt248.1 bt256.1 true)) else (laws_FnOctals.j1 kj2 l1 t240 t243 bt248.1 bt256.1 true)) else (laws_FnOctals.j1 kj2 l1 t240 t243 bt248.1 bt256.1 true))) else (laws_FnOctals.j1 kj2 l1 t240 t243 bt248.1 bt256.1 true)) else (laws_FnOctals.j1 kj2 l1 t240 t243 bt248.1 bt256.1 true)))))) = some r := H
          have A9 := Aside0.mk A90
          clear A90
          replace H := Option.bind_eq_some_iff.mp H
          obtain ⟨⟨t244, t245⟩, A100, H⟩ := H
          replace H : ((spec_OctalValues.f kj2 t240 t243).bind fun bt248 => ((impl_OctalMoves.f kj2 t240 t243).bind fun bt252 => ((spec_OctalMoves.f kj2 t240 t243).bind fun bt256 => (if t245 = bt248.2 then (if t245 = 0 then ((spec_SameNims.f kj2 t244 bt248.1).bind fun t260 => (if t260 = true then (if (bt248.1.length : Int) = (wrap64 (t243 + 1)) then (if bt252.2 = bt256.2 then (if bt252.2 = 0 then ((spec_SamePairs.f kj2 bt252.1 bt256.1).bind fun t261 => (laws_FnOctals.j1 kj2 l1 t240 t243 bt248.1 bt256.1 (!t261))) else (laws_FnOctals.j1 kj2 l1 t240 t243 bt248.1 bt256.1 true)) else (laws_FnOctals.j1 kj2 l1 t240 t243 bt248.1 bt256.1 true)) else (laws_FnOctals.j1 kj2 l1 t240 t243 bt248.1 bt256.1 true)) else (laws_FnOctals.j1 kj2 l1 t240 t243 bt248.1 bt256.1 true))) else (laws_FnOctals.j1 kj2 l1 t240 t243 bt248.1 bt256.1 true)) else (laws_FnOctals.j1 kj2 l1 t240 t243 bt248.1 bt256.1 true))))) = some r := H
          have A10 := Aside0.mk A100
          clear A100
          replace H := Option.bind_eq_some_iff.mp H
          obtain ⟨⟨t248, t249⟩, A110, H⟩ := H
          replace H : ((impl_OctalMoves.f kj2 t240 t243).bind fun bt252 => ((spec_OctalMoves.f kj2 t240 t243).bind fun bt256 => (if t245 = t249 then (if t245 = 0 then ((spec_SameNims.f kj2 t244 t248).bind fun t260 => (if t260 = true then (if (t248.length : Int) = (wrap64 (t243 + 1)) then (if bt252.2 = bt256.2 then (if bt252.2 = 0 then ((spec_SamePairs.f kj2 bt252.1 bt256.1).bind fun t261 => (laws_FnOctals.j1 kj2 l1 t240 t243 t248 bt256.1 (!t261))) else (laws_FnOctals.j1 kj2 l1 t240 t243 t248 bt256.1 true)) else (laws_FnOctals.j1 kj2 l1 t240 t243 t248 bt256.1 true)) else (laws_FnOctals.j1 kj2 l1 t240 t243 t248 bt256.1 true)) else (laws_FnOctals.j1 kj2 l1 t240 t243 t248 bt256.1 true))) else (laws_FnOctals.j1 kj2 l1 t240 t243 t248 bt256.1 true)) else (laws_FnOctals.j1 kj2 l1 t240 t243 t248 bt256.1 true)))) = some r := H
          have A11 := Aside0.mk A110
          clear A110
          replace H := Option.bind_eq_some_iff.mp H
          obtain ⟨⟨t252, t253⟩, A120, H⟩ := H
          replace H : ((spec_OctalMoves.f kj2 t240 t243).bind fun bt256 => (if t245 = t249 then (if t245 = 0 then ((spec_SameNims.f kj2 t244 t248).bind fun t260 => (if t260 = true then (if (t248.length : Int) = (wrap64 (t243 + 1)) then (if t253 = bt256.2 then (if t253 = 0 then ((spec_SamePairs.f kj2 t252 bt256.1).bind fun t261 => (laws_FnOctals.j1 kj2 l1 t240 t243 t248 bt256.1 (!t261))) else (laws_FnOctals.j1 kj2 l1 t240 t243 t248 bt256.1 true)) else (laws_FnOctals.j1 kj2 l1 t240 t243 t248 bt256.1 true)) else (laws_FnOctals.j1 kj2 l1 t240 t243 t248 bt256.1 true)) else (laws_FnOctals.j1 kj2 l1 t240 t243 t248 bt256.1 true))) else (laws_FnOctals.j1 kj2 l1 t240 t243 t248 bt256.1 true)) else (laws_FnOctals.j1 kj2 l1 t240 t243 t248 bt256.1 true))) = some r := H
          have A12 := Aside0.mk A120
          clear A120
          replace H := Option.bind_eq_some_iff.mp H
          obtain ⟨⟨t256, t257⟩, A130, H⟩ := H
          replace H : (if t245 = t249 then (if t245 = 0 then ((spec_SameNims.f kj2 t244 t248).bind fun t260 => (if t260 = true then (if (t248.length : Int) = (wrap64 (t243 + 1)) then (if t253 = t257 then (if t253 = 0 then ((spec_SamePairs.f kj2 t252 t256).bind fun t261 => (laws_FnOctals.j1 kj2 l1 t240 t243 t248 t256 (!t261))) else (laws_FnOctals.j1 kj2 l1 t240 t243 t248 t256 true)) else (laws_FnOctals.j1 kj2 l1 t240 t243 t248 t256 true)) else (laws_FnOctals.j1 kj2 l1 t240 t243 t248 t256 true)) else (laws_FnOctals.j1 kj2 l1 t240 t243 t248 t256 true))) else (laws_FnOctals.j1 kj2 l1 t240 t243 t248 t256 true)) else (laws_FnOctals.j1 kj2 l1 t240 t243 t248 t256 true)) = some r := H
          have A13 := Aside0.mk A130
          clear A130
          have HC14 := Aside0.mk H
          clear H
          go_upto_region 9 with (first | ((with_reducible refine gate_callee (f := 54) rfl ?_); refine goesL_ (some 34) rfl rfl Try.func54 (by kernel_rfl) rfl #[.slice A0 l0.length c0] rfl (by (try simp only [List.map_toArray, List.map_cons, List.map_nil]); first | done | rfl | (simp only [List.length_drop, List.length_take]; rfl)) ?_; (with_reducible refine (spec_P6Octal.calls kj2 _ _ l0 t240 _ ?side1 ?side2 A8.out).mono ?_); (case side1 => repeat (first | exact (Kd.C_below HR0.out HB.out) | (with_reducible refine Kd.C_alloc ?_ _) | (with_reducible refine Kd.C_drewN ?_ _) | (with_reducible refine Kd.C_drew ?_))); (case side2 => exact HC0.out); rintro e w15 ⟨v241, rfl, ho0, hb⟩; refine ⟨_, rfl, ?_⟩; have n0_ := Aside0.mk (Kd.R_lower ho0 (below_size (by repeat (first | (with_reducible first | exact HB.out | apply below_alloc | apply pw_below_drewN | apply below_drew1) | exact HB.out)))); have n1_ := Aside0.mk (below_step (by repeat (first | (with_reducible first | exact HB.out | apply below_alloc | apply pw_below_drewN | apply below_drew1) | exact HB.out)) hb); clear HB; have HO242 := n0_; have HB := n1_; clear n0_ n1_; (try clear hb); (try clear hb2); (try clear hk); (try clear hi); (try clear ho0)) | ((with_reducible refine gate_callee (f := 41) rfl ?_); refine goesL_ (some 36) rfl rfl Try.func41 (by kernel_rfl) rfl #[.slice A1 l1.length c1, .int .i64 30] rfl (by (try simp only [List.map_toArray, List.map_cons, List.map_nil]); first | done | rfl | (simp only [List.length_drop, List.length_take]; rfl)) ?_; (with_reducible refine (spec_P6Pick.calls _ _ l1 30 t243 _ ?side1 ?side2 A9.out).mono ?_); (case side1 => repeat (first | exact (Kd.C_below HR1.out HB.out) | (with_reducible refine Kd.C_alloc ?_ _) | (with_reducible refine Kd.C_drewN ?_ _) | (with_reducible refine Kd.C_drew ?_))); (case side2 => exact HC1.out); rintro e w16 ⟨rfl, hb⟩; refine ⟨_, rfl, ?_⟩; have n0_ := Aside0.mk (Kd.R_below (by (with_reducible repeat (first | apply Kd.R_alloc | apply Kd.R_drewN | apply Kd.R_drew)); exact HO242.out) hb); have n1_ := Aside0.mk (below_step (by repeat (first | (with_reducible first | exact HB.out | apply below_alloc | apply pw_below_drewN | apply below_drew1) | exact HB.out)) hb); clear HO242; clear HB; have HO242 := n0_; have HB := n1_; clear n0_ n1_; (try clear hb); (try clear hb2); (try clear hk); (try clear hi); obtain ⟨Ao17, co17, eo17⟩ := Kd.R_slice HO242.out; subst eo17) | ((with_reducible refine gate_callee (f := 50) rfl ?_); refine goesL_ (some 40) rfl rfl Try.func50 (by kernel_rfl) rfl #[.slice Ao17 t240.length co17, .int .i64 t243] rfl (by (try simp only [List.map_toArray, List.map_cons, List.map_nil]); first | done | rfl | (simp only [List.length_drop, List.length_take]; rfl)) ?_; (with_reducible refine (impl_OctalValues.calls kj2 _ _ t240 t243 t244 t245 _ ?side1 ?side2 A10.out).mono ?_); (case side1 => repeat (first | exact (Kd.R_reads' HO242.out).2.2 | (with_reducible refine Kd.C_alloc ?_ _) | (with_reducible refine Kd.C_drewN ?_ _) | (with_reducible refine Kd.C_drew ?_))); (case side2 => exact (Kd.R_reads' HO242.out).2.1); rintro e w18 ⟨v246, rfl, ho0, hb⟩; refine ⟨_, rfl, ?_⟩; have n0_ := Aside0.mk (Kd.R_below (by (with_reducible repeat (first | apply Kd.R_alloc | apply Kd.R_drewN | apply Kd.R_drew)); exact HO242.out) hb); have n1_ := Aside0.mk (Kd.R_lower ho0 (below_size (by repeat (first | (with_reducible first | exact HB.out | apply below_alloc | apply pw_below_drewN | apply below_drew1) | exact HB.out)))); have n2_ := Aside0.mk (below_step (by repeat (first | (with_reducible first | exact HB.out | apply below_alloc | apply pw_below_drewN | apply below_drew1) | exact HB.out)) hb); clear HO242; clear HB; have HO242 := n0_; have HO247 := n1_; have HB := n2_; clear n0_ n1_ n2_; (try clear hb); (try clear hb2); (try clear hk); (try clear hi); (try clear ho0)) | ((with_reducible refine gate_callee (f := 49) rfl ?_); refine goesL_ (some 46) rfl rfl Try.func49 (by kernel_rfl) rfl #[.slice Ao17 t240.length co17, .int .i64 t243] rfl (by (try simp only [List.map_toArray, List.map_cons, List.map_nil]); first | done | rfl | (simp only [List.length_drop, List.length_take]; rfl)) ?_; (with_reducible refine (spec_OctalValues.calls kj2 _ _ t240 t243 t248 t249 _ ?side1 ?side2 A11.out).mono ?_); (case side1 => repeat (first | exact (Kd.R_reads' HO242.out).2.2 | (with_reducible refine Kd.C_alloc ?_ _) | (with_reducible refine Kd.C_drewN ?_ _) | (with_reducible refine Kd.C_drew ?_))); (case side2 => exact (Kd.R_reads' HO242.out).2.1); rintro e w19 ⟨v250, rfl, ho0, hb⟩; refine ⟨_, rfl, ?_⟩; have n0_ := Aside0.mk (Kd.R_below (by (with_reducible repeat (first | apply Kd.R_alloc | apply Kd.R_drewN | apply Kd.R_drew)); exact HO242.out) hb); have n1_ := Aside0.mk (Kd.R_elder' (by (with_reducible repeat (first | apply Kd.R_alloc | apply Kd.R_drewN | apply Kd.R_drew)); exact HO247.out) (Kd.R_base ho0) hb); have n2_ := Aside0.mk (Kd.R_lower (Kd.R_new' ho0 (Kd.R_lt (by (with_reducible repeat (first | apply Kd.R_alloc | apply Kd.R_drewN | apply Kd.R_drew)); exact HO247.out))) (below_size (by repeat (first | (with_reducible first | exact HB.out | apply below_alloc | apply pw_below_drewN | apply below_drew1) | exact HB.out)))); have n3_ := Aside0.mk (below_step (by repeat (first | (with_reducible first | exact HB.out | apply below_alloc | apply pw_below_drewN | apply below_drew1) | exact HB.out)) hb); clear HO242; clear HO247; clear HB; have HO242 := n0_; have HO247 := n1_; have HO251 := n2_; have HB := n3_; clear n0_ n1_ n2_ n3_; (try clear hb); (try clear hb2); (try clear hk); (try clear hi); (try clear ho0)) | ((with_reducible refine gate_callee (f := 46) rfl ?_); refine goesL_ (some 52) rfl rfl Try.func46 (by kernel_rfl) rfl #[.slice Ao17 t240.length co17, .int .i64 t243] rfl (by (try simp only [List.map_toArray, List.map_cons, List.map_nil]); first | done | rfl | (simp only [List.length_drop, List.length_take]; rfl)) ?_; (with_reducible refine (impl_OctalMoves.calls kj2 _ _ t240 t243 t252 t253 _ ?side1 ?side2 A12.out).mono ?_); (case side1 => repeat (first | exact (Kd.R_reads' HO242.out).2.2 | (with_reducible refine Kd.C_alloc ?_ _) | (with_reducible refine Kd.C_drewN ?_ _) | (with_reducible refine Kd.C_drew ?_))); (case side2 => exact (Kd.R_reads' HO242.out).2.1); rintro e w20 ⟨v254, rfl, ho0, hb⟩; refine ⟨_, rfl, ?_⟩; have n0_ := Aside0.mk (Kd.R_below (by (with_reducible repeat (first | apply Kd.R_alloc | apply Kd.R_drewN | apply Kd.R_drew)); exact HO242.out) hb); have n1_ := Aside0.mk (Kd.R_below (by (with_reducible repeat (first | apply Kd.R_alloc | apply Kd.R_drewN | apply Kd.R_drew)); exact HO247.out) hb); have n2_ := Aside0.mk (Kd.R_below (by (with_reducible repeat (first | apply Kd.R_alloc | apply Kd.R_drewN | apply Kd.R_drew)); exact HO251.out) hb); have n3_ := Aside0.mk (Kd.R_lower ho0 (below_size (by repeat (first | (with_reducible first | exact HB.out | apply below_alloc | apply pw_below_drewN | apply below_drew1) | exact HB.out)))); have n4_ := Aside0.mk (below_step (by repeat (first | (with_reducible first | exact HB.out | apply below_alloc | apply pw_below_drewN | apply below_drew1) | exact HB.out)) hb); clear HO242; clear HO247; clear HO251; clear HB; have HO242 := n0_; have HO247 := n1_; have HO251 := n2_; have HO255 := n3_; have HB := n4_; clear n0_ n1_ n2_ n3_ n4_; (try clear hb); (try clear hb2); (try clear hk); (try clear hi); (try clear ho0)) | ((with_reducible refine gate_callee (f := 44) rfl ?_); refine goesL_ (some 58) rfl rfl Try.func44 (by kernel_rfl) rfl #[.slice Ao17 t240.length co17, .int .i64 t243] rfl (by (try simp only [List.map_toArray, List.map_cons, List.map_nil]); first | done | rfl | (simp only [List.length_drop, List.length_take]; rfl)) ?_; (with_reducible refine (spec_OctalMoves.calls kj2 _ _ t240 t243 t256 t257 _ ?side1 ?side2 A13.out).mono ?_); (case side1 => repeat (first | exact (Kd.R_reads' HO242.out).2.2 | (with_reducible refine Kd.C_alloc ?_ _) | (with_reducible refine Kd.C_drewN ?_ _) | (with_reducible refine Kd.C_drew ?_))); (case side2 => exact (Kd.R_reads' HO242.out).2.1); rintro e w21 ⟨v258, rfl, ho0, hb⟩; refine ⟨_, rfl, ?_⟩; have n0_ := Aside0.mk (Kd.R_below (by (with_reducible repeat (first | apply Kd.R_alloc | apply Kd.R_drewN | apply Kd.R_drew)); exact HO242.out) hb); have n1_ := Aside0.mk (Kd.R_below (by (with_reducible repeat (first | apply Kd.R_alloc | apply Kd.R_drewN | apply Kd.R_drew)); exact HO247.out) hb); have n2_ := Aside0.mk (Kd.R_below (by (with_reducible repeat (first | apply Kd.R_alloc | apply Kd.R_drewN | apply Kd.R_drew)); exact HO251.out) hb); have n3_ := Aside0.mk (Kd.R_elder' (by (with_reducible repeat (first | apply Kd.R_alloc | apply Kd.R_drewN | apply Kd.R_drew)); exact HO255.out) (Kd.R_base ho0) hb); have n4_ := Aside0.mk (Kd.R_lower (Kd.R_new' ho0 (Kd.R_lt (by (with_reducible repeat (first | apply Kd.R_alloc | apply Kd.R_drewN | apply Kd.R_drew)); exact HO255.out))) (below_size (by repeat (first | (with_reducible first | exact HB.out | apply below_alloc | apply pw_below_drewN | apply below_drew1) | exact HB.out)))); have n5_ := Aside0.mk (below_step (by repeat (first | (with_reducible first | exact HB.out | apply below_alloc | apply pw_below_drewN | apply below_drew1) | exact HB.out)) hb); clear HO242; clear HO247; clear HO251; clear HO255; clear HB; have HO242 := n0_; have HO247 := n1_; have HO251 := n2_; have HO255 := n3_; have HO259 := n4_; have HB := n5_; clear n0_ n1_ n2_ n3_ n4_ n5_; (try clear hb); (try clear hb2); (try clear hk); (try clear hi); (try clear ho0)))
          (try simp only [Act.put, List.setIfInBounds_toArray, List.set_cons_zero, List.set_cons_succ])
          go_cut [95] (fun v95 wc => ∃ (kq : Nat) (x95_13 : Bool), v95 = .bool x95_13 ∧ Aside0 (laws_FnOctals.j1 kq l1 t240 t243 t248 t256 x95_13 = some r) ∧ Aside0 (kq ≤ kj2) ∧ Aside0 (Kd.R (Kd.int .u8) 5 wc w.heap.size (fun _ => True) (.slice Ao17 t240.length co17) t240) ∧ Aside0 (Kd.R (Kd.int .u16) 44 wc w.heap.size (fun _ => True) v250 t248) ∧ Aside0 (Kd.R k46 46 wc w.heap.size (fun _ => True) v258 t256) ∧ Aside0 (Below w.heap.size w wc))
          case first =>
            as_aux_lemma =>
              have H := HC14.out
              clear HC14
              by_cases c22 : t245 = t249
              · rw [if_pos c22] at H
                have c22b0 : (t245 == t249) = true := beq_iff_eq.mpr c22
                have c22b1 : (t245 != t249) = false := bne_eq_false_iff_eq.mpr c22
                clear c22
                (first | rw [c22b0] | (simp only [i64_w, i32_w]; rw [c22b0]) | skip)
                by_cases c23 : t245 = 0
                · rw [if_pos c23] at H
                  have c23b0 : (t245 == 0) = true := beq_iff_eq.mpr c23
                  have c23b1 : (t245 != 0) = false := bne_eq_false_iff_eq.mpr c23
                  clear c23
                  replace H := Option.bind_eq_some_iff.mp H
                  obtain ⟨t260, A240, H⟩ := H
                  replace H : (if t260 = true then (if (t248.length : Int) = (wrap64 (t243 + 1)) then (if t253 = t257 then (if t253 = 0 then ((spec_SamePairs.f kj2 t252 t256).bind fun t261 => (laws_FnOctals.j1 kj2 l1 t240 t243 t248 t256 (!t261))) else (laws_FnOctals.j1 kj2 l1 t240 t243 t248 t256 true)) else (laws_FnOctals.j1 kj2 l1 t240 t243 t248 t256 true)) else (laws_FnOctals.j1 kj2 l1 t240 t243 t248 t256 true)) else (laws_FnOctals.j1 kj2 l1 t240 t243 t248 t256 true)) = some r := H
                  have A24 := Aside0.mk A240
                  clear A240
                  by_cases c25 : t260 = true
                  · subst c25
                    have H1 : (if (t248.length : Int) = (wrap64 (t243 + 1)) then (if t253 = t257 then (if t253 = 0 then ((spec_SamePairs.f kj2 t252 t256).bind fun t261 => (laws_FnOctals.j1 kj2 l1 t240 t243 t248 t256 (!t261))) else (laws_FnOctals.j1 kj2 l1 t240 t243 t248 t256 true)) else (laws_FnOctals.j1 kj2 l1 t240 t243 t248 t256 true)) else (laws_FnOctals.j1 kj2 l1 t240 t243 t248 t256 true)) = some r := by rw [if_pos rfl] at H; exact H
                    clear H
                    have H := H1
                    clear H1
                    by_cases c26 : (t248.length : Int) = (wrap64 (t243 + 1))
                    · rw [if_pos c26] at H
                      have c26b0 : ((t248.length : Int) == (wrap64 (t243 + 1))) = true := beq_iff_eq.mpr c26
                      have c26b1 : ((t248.length : Int) != (wrap64 (t243 + 1))) = false := bne_eq_false_iff_eq.mpr c26
                      clear c26
                      by_cases c27 : t253 = t257
                      · rw [if_pos c27] at H
                        have c27b0 : (t253 == t257) = true := beq_iff_eq.mpr c27
                        have c27b1 : (t253 != t257) = false := bne_eq_false_iff_eq.mpr c27
                        clear c27
                        by_cases c28 : t253 = 0
                        · rw [if_pos c28] at H
                          have c28b0 : (t253 == 0) = true := beq_iff_eq.mpr c28
                          have c28b1 : (t253 != 0) = false := bne_eq_false_iff_eq.mpr c28
                          clear c28
                          replace H := Option.bind_eq_some_iff.mp H
                          obtain ⟨t261, A290, H⟩ := H
                          replace H : (laws_FnOctals.j1 kj2 l1 t240 t243 t248 t256 (!t261)) = some r := H
                          have A29 := Aside0.mk A290
                          clear A290
                          have H' := Aside0.mk H
                          clear H
                          obtain ⟨Ao30, co30, eo30⟩ := Kd.R_slice HO247.out
                          subst eo30
                          obtain ⟨Ao31, co31, eo31⟩ := Kd.R_slice HO251.out
                          subst eo31
                          go_wp2_with (first | (go_at_call 25; (with_reducible refine (spec_SameNims.calls kj2 _ _ t244 _ _ t248 true _ ?side1 ?side2 ?side3 ?side4 A24.out).mono ?_); (case side1 => repeat (first | exact (Kd.R_reads' HO247.out).2.2 | (with_reducible refine Kd.C_alloc ?_ _) | (with_reducible refine Kd.C_drewN ?_ _) | (with_reducible refine Kd.C_drew ?_))); (case side2 => exact (Kd.R_reads' HO247.out).2.1); (case side3 => repeat (first | exact (Kd.R_reads' HO251.out).2.2 | (with_reducible refine Kd.C_alloc ?_ _) | (with_reducible refine Kd.C_drewN ?_ _) | (with_reducible refine Kd.C_drew ?_))); (case side4 => exact (Kd.R_reads' HO251.out).2.1); rintro e w' ⟨rfl, ⟨nd, rfl⟩⟩; obtain ⟨Ao32, co32, eo32⟩ := Kd.R_slice HO255.out; subst eo32; obtain ⟨Ao33, co33, eo33⟩ := Kd.R_slice HO259.out; subst eo33) | (go_at_call 26; (with_reducible refine (spec_SamePairs.calls kj2 _ _ t252 _ _ t256 t261 _ ?side1 ?side2 ?side3 ?side4 A29.out).mono ?_); (case side1 => repeat (first | exact (Kd.R_reads' HO255.out).2.2 | (with_reducible refine Kd.C_alloc ?_ _) | (with_reducible refine Kd.C_drewN ?_ _) | (with_reducible refine Kd.C_drew ?_))); (case side2 => exact (Kd.R_reads' HO255.out).2.1); (case side3 => repeat (first | exact (Kd.R_reads' HO259.out).2.2 | (with_reducible refine Kd.C_alloc ?_ _) | (with_reducible refine Kd.C_drewN ?_ _) | (with_reducible refine Kd.C_drew ?_))); (case side4 => exact (Kd.R_reads' HO259.out).2.1); rintro e w' ⟨rfl, ⟨nd, rfl⟩⟩))
                          go_meet
                          case rel => exact ⟨_, (!t261), (by first | rfl | (simp; done) | (simp [*]; done)), H', ⟨by have := HJ2.out; first | omega | exact Nat.le_refl _⟩, ⟨by (with_reducible repeat (first | apply Kd.R_alloc | apply Kd.R_drewN | apply Kd.R_drew)); exact HO242.out⟩, ⟨by (with_reducible repeat (first | apply Kd.R_alloc | apply Kd.R_drewN | apply Kd.R_drew)); exact Kd.R_mono HO251.out (fun _ hk => trivial)⟩, ⟨by (with_reducible repeat (first | apply Kd.R_alloc | apply Kd.R_drewN | apply Kd.R_drew)); exact Kd.R_mono HO259.out (fun _ hk => trivial)⟩, ⟨by repeat (first | (with_reducible first | exact HB.out | apply below_alloc | apply pw_below_drewN | apply below_drew1) | exact HB.out)⟩⟩
                        · rw [if_neg c28] at H
                          have c28b0 : (t253 == 0) = false := beq_eq_false_iff_ne.mpr c28
                          have c28b1 : (t253 != 0) = true := bne_iff_ne.mpr c28
                          have H' := Aside0.mk H
                          clear H
                          obtain ⟨Ao34, co34, eo34⟩ := Kd.R_slice HO247.out
                          subst eo34
                          obtain ⟨Ao35, co35, eo35⟩ := Kd.R_slice HO251.out
                          subst eo35
                          go_wp2_with (first | (go_at_call 25; (with_reducible refine (spec_SameNims.calls kj2 _ _ t244 _ _ t248 true _ ?side1 ?side2 ?side3 ?side4 A24.out).mono ?_); (case side1 => repeat (first | exact (Kd.R_reads' HO247.out).2.2 | (with_reducible refine Kd.C_alloc ?_ _) | (with_reducible refine Kd.C_drewN ?_ _) | (with_reducible refine Kd.C_drew ?_))); (case side2 => exact (Kd.R_reads' HO247.out).2.1); (case side3 => repeat (first | exact (Kd.R_reads' HO251.out).2.2 | (with_reducible refine Kd.C_alloc ?_ _) | (with_reducible refine Kd.C_drewN ?_ _) | (with_reducible refine Kd.C_drew ?_))); (case side4 => exact (Kd.R_reads' HO251.out).2.1); rintro e w' ⟨rfl, ⟨nd, rfl⟩⟩))
                          go_meet
                          case rel => exact ⟨_, (true), (by first | rfl | (simp; done) | (simp [*]; done)), H', ⟨by have := HJ2.out; first | omega | exact Nat.le_refl _⟩, ⟨by (with_reducible repeat (first | apply Kd.R_alloc | apply Kd.R_drewN | apply Kd.R_drew)); exact HO242.out⟩, ⟨by (with_reducible repeat (first | apply Kd.R_alloc | apply Kd.R_drewN | apply Kd.R_drew)); exact Kd.R_mono HO251.out (fun _ hk => trivial)⟩, ⟨by (with_reducible repeat (first | apply Kd.R_alloc | apply Kd.R_drewN | apply Kd.R_drew)); exact Kd.R_mono HO259.out (fun _ hk => trivial)⟩, ⟨by repeat (first | (with_reducible first | exact HB.out | apply below_alloc | apply pw_below_drewN | apply below_drew1) | exact HB.out)⟩⟩
                      · rw [if_neg c27] at H
                        have c27b0 : (t253 == t257) = false := beq_eq_false_iff_ne.mpr c27
                        have c27b1 : (t253 != t257) = true := bne_iff_ne.mpr c27
                        have H' := Aside0.mk H
                        clear H
                        obtain ⟨Ao36, co36, eo36⟩ := Kd.R_slice HO247.out
                        subst eo36
                        obtain ⟨Ao37, co37, eo37⟩ := Kd.R_slice HO251.out
                        subst eo37
                        go_wp2_with (first | (go_at_call 25; (with_reducible refine (spec_SameNims.calls kj2 _ _ t244 _ _ t248 true _ ?side1 ?side2 ?side3 ?side4 A24.out).mono ?_); (case side1 => repeat (first | exact (Kd.R_reads' HO247.out).2.2 | (with_reducible refine Kd.C_alloc ?_ _) | (with_reducible refine Kd.C_drewN ?_ _) | (with_reducible refine Kd.C_drew ?_))); (case side2 => exact (Kd.R_reads' HO247.out).2.1); (case side3 => repeat (first | exact (Kd.R_reads' HO251.out).2.2 | (with_reducible refine Kd.C_alloc ?_ _) | (with_reducible refine Kd.C_drewN ?_ _) | (with_reducible refine Kd.C_drew ?_))); (case side4 => exact (Kd.R_reads' HO251.out).2.1); rintro e w' ⟨rfl, ⟨nd, rfl⟩⟩))
                        go_meet
                        case rel => exact ⟨_, (true), (by first | rfl | (simp; done) | (simp [*]; done)), H', ⟨by have := HJ2.out; first | omega | exact Nat.le_refl _⟩, ⟨by (with_reducible repeat (first | apply Kd.R_alloc | apply Kd.R_drewN | apply Kd.R_drew)); exact HO242.out⟩, ⟨by (with_reducible repeat (first | apply Kd.R_alloc | apply Kd.R_drewN | apply Kd.R_drew)); exact Kd.R_mono HO251.out (fun _ hk => trivial)⟩, ⟨by (with_reducible repeat (first | apply Kd.R_alloc | apply Kd.R_drewN | apply Kd.R_drew)); exact Kd.R_mono HO259.out (fun _ hk => trivial)⟩, ⟨by repeat (first | (with_reducible first | exact HB.out | apply below_alloc | apply pw_below_drewN | apply below_drew1) | exact HB.out)⟩⟩
                    · rw [if_neg c26] at H
                      have c26b0 : ((t248.length : Int) == (wrap64 (t243 + 1))) = false := beq_eq_false_iff_ne.mpr c26
                      have c26b1 : ((t248.length : Int) != (wrap64 (t243 + 1))) = true := bne_iff_ne.mpr c26
                      have H' := Aside0.mk H
                      clear H
                      obtain ⟨Ao38, co38, eo38⟩ := Kd.R_slice HO247.out
                      subst eo38
                      obtain ⟨Ao39, co39, eo39⟩ := Kd.R_slice HO251.out
                      subst eo39
                      go_wp2_with (first | (go_at_call 25; (with_reducible refine (spec_SameNims.calls kj2 _ _ t244 _ _ t248 true _ ?side1 ?side2 ?side3 ?side4 A24.out).mono ?_); (case side1 => repeat (first | exact (Kd.R_reads' HO247.out).2.2 | (with_reducible refine Kd.C_alloc ?_ _) | (with_reducible refine Kd.C_drewN ?_ _) | (with_reducible refine Kd.C_drew ?_))); (case side2 => exact (Kd.R_reads' HO247.out).2.1); (case side3 => repeat (first | exact (Kd.R_reads' HO251.out).2.2 | (with_reducible refine Kd.C_alloc ?_ _) | (with_reducible refine Kd.C_drewN ?_ _) | (with_reducible refine Kd.C_drew ?_))); (case side4 => exact (Kd.R_reads' HO251.out).2.1); rintro e w' ⟨rfl, ⟨nd, rfl⟩⟩))
                      go_meet
                      case rel => exact ⟨_, (true), (by first | rfl | (simp; done) | (simp [*]; done)), H', ⟨by have := HJ2.out; first | omega | exact Nat.le_refl _⟩, ⟨by (with_reducible repeat (first | apply Kd.R_alloc | apply Kd.R_drewN | apply Kd.R_drew)); exact HO242.out⟩, ⟨by (with_reducible repeat (first | apply Kd.R_alloc | apply Kd.R_drewN | apply Kd.R_drew)); exact Kd.R_mono HO251.out (fun _ hk => trivial)⟩, ⟨by (with_reducible repeat (first | apply Kd.R_alloc | apply Kd.R_drewN | apply Kd.R_drew)); exact Kd.R_mono HO259.out (fun _ hk => trivial)⟩, ⟨by repeat (first | (with_reducible first | exact HB.out | apply below_alloc | apply pw_below_drewN | apply below_drew1) | exact HB.out)⟩⟩
                  · replace c25 := Bool.eq_false_iff.mpr c25
                    subst c25
                    have H1 : (laws_FnOctals.j1 kj2 l1 t240 t243 t248 t256 true) = some r := by rw [if_neg (show ¬ (false = true) by decide)] at H; exact H
                    clear H
                    have H := H1
                    clear H1
                    have H' := Aside0.mk H
                    clear H
                    obtain ⟨Ao40, co40, eo40⟩ := Kd.R_slice HO247.out
                    subst eo40
                    obtain ⟨Ao41, co41, eo41⟩ := Kd.R_slice HO251.out
                    subst eo41
                    go_wp2_with (first | (go_at_call 25; (with_reducible refine (spec_SameNims.calls kj2 _ _ t244 _ _ t248 false _ ?side1 ?side2 ?side3 ?side4 A24.out).mono ?_); (case side1 => repeat (first | exact (Kd.R_reads' HO247.out).2.2 | (with_reducible refine Kd.C_alloc ?_ _) | (with_reducible refine Kd.C_drewN ?_ _) | (with_reducible refine Kd.C_drew ?_))); (case side2 => exact (Kd.R_reads' HO247.out).2.1); (case side3 => repeat (first | exact (Kd.R_reads' HO251.out).2.2 | (with_reducible refine Kd.C_alloc ?_ _) | (with_reducible refine Kd.C_drewN ?_ _) | (with_reducible refine Kd.C_drew ?_))); (case side4 => exact (Kd.R_reads' HO251.out).2.1); rintro e w' ⟨rfl, ⟨nd, rfl⟩⟩))
                    go_meet
                    case rel => exact ⟨_, (true), (by first | rfl | (simp; done) | (simp [*]; done)), H', ⟨by have := HJ2.out; first | omega | exact Nat.le_refl _⟩, ⟨by (with_reducible repeat (first | apply Kd.R_alloc | apply Kd.R_drewN | apply Kd.R_drew)); exact HO242.out⟩, ⟨by (with_reducible repeat (first | apply Kd.R_alloc | apply Kd.R_drewN | apply Kd.R_drew)); exact Kd.R_mono HO251.out (fun _ hk => trivial)⟩, ⟨by (with_reducible repeat (first | apply Kd.R_alloc | apply Kd.R_drewN | apply Kd.R_drew)); exact Kd.R_mono HO259.out (fun _ hk => trivial)⟩, ⟨by repeat (first | (with_reducible first | exact HB.out | apply below_alloc | apply pw_below_drewN | apply below_drew1) | exact HB.out)⟩⟩
                · rw [if_neg c23] at H
                  have c23b0 : (t245 == 0) = false := beq_eq_false_iff_ne.mpr c23
                  have c23b1 : (t245 != 0) = true := bne_iff_ne.mpr c23
                  have H' := Aside0.mk H
                  clear H
                  go_wp2
                  go_meet
                  case rel => exact ⟨_, (true), (by first | rfl | (simp; done) | (simp [*]; done)), H', ⟨by have := HJ2.out; first | omega | exact Nat.le_refl _⟩, ⟨by (with_reducible repeat (first | apply Kd.R_alloc | apply Kd.R_drewN | apply Kd.R_drew)); exact HO242.out⟩, ⟨by (with_reducible repeat (first | apply Kd.R_alloc | apply Kd.R_drewN | apply Kd.R_drew)); exact Kd.R_mono HO251.out (fun _ hk => trivial)⟩, ⟨by (with_reducible repeat (first | apply Kd.R_alloc | apply Kd.R_drewN | apply Kd.R_drew)); exact Kd.R_mono HO259.out (fun _ hk => trivial)⟩, ⟨by repeat (first | (with_reducible first | exact HB.out | apply below_alloc | apply pw_below_drewN | apply below_drew1) | exact HB.out)⟩⟩
              · rw [if_neg c22] at H
                have c22b0 : (t245 == t249) = false := beq_eq_false_iff_ne.mpr c22
                have c22b1 : (t245 != t249) = true := bne_iff_ne.mpr c22
                (first | rw [c22b0] | (simp only [i64_w, i32_w]; rw [c22b0]) | skip)
                have H' := Aside0.mk H
                clear H
                go_wp2
                go_meet
                case rel => exact ⟨_, (true), (by first | rfl | (simp; done) | (simp [*]; done)), H', ⟨by have := HJ2.out; first | omega | exact Nat.le_refl _⟩, ⟨by (with_reducible repeat (first | apply Kd.R_alloc | apply Kd.R_drewN | apply Kd.R_drew)); exact HO242.out⟩, ⟨by (with_reducible repeat (first | apply Kd.R_alloc | apply Kd.R_drewN | apply Kd.R_drew)); exact Kd.R_mono HO251.out (fun _ hk => trivial)⟩, ⟨by (with_reducible repeat (first | apply Kd.R_alloc | apply Kd.R_drewN | apply Kd.R_drew)); exact Kd.R_mono HO259.out (fun _ hk => trivial)⟩, ⟨by repeat (first | (with_reducible first | exact HB.out | apply below_alloc | apply pw_below_drewN | apply below_drew1) | exact HB.out)⟩⟩
          case rest =>
            as_aux_lemma =>
              clear HC14
              try clear c1
              try clear c2
              try clear p2
              try clear c4
              try clear c5
              try clear p6
              try clear c7
              try clear c9
              try clear c18
              try clear c22
              try clear c22b0
              try clear c22b1
              try clear c23
              try clear c23b0
              try clear c23b1
              try clear c25
              try clear c26
              try clear c26b0
              try clear c26b1
              try clear c27
              try clear c27b0
              try clear c27b1
              try clear c28
              try clear c28b0
              try clear c28b1
              try clear c41
              try clear p2
              obtain ⟨kq, x95_13, rfl, HA, HJ13, HO_5, HO_9, HO_13, HB⟩ := hcut
              cases kq with
              | zero => exact absurd HA.out (by simp [laws_FnOctals.j1])
              | succ kj13 =>
                have H := HA.out
                clear HA
                simp only [laws_FnOctals.j1] at H
                by_cases c42 : x95_13 = true
                · subst c42
                  have H1 : (some false) = some r := by rw [if_pos rfl] at H; exact H
                  clear H
                  have H := H1
                  clear H1
                  obtain rfl := Option.some.inj H
                  go_wp2
                  go_ret
                  exact ⟨by first | rfl | (simp [errW_none, errW_some] <;> rfl) | (simp [*, errW_none, errW_some] <;> rfl), by repeat (first | (with_reducible first | exact HB.out | apply below_alloc | apply pw_below_drewN | apply below_drew1) | exact HB.out)⟩
                · replace c42 := Bool.eq_false_iff.mpr c42
                  subst c42
                  have H1 : (laws_FnOctals.l0 kj13 l1 t240 t243 t248 t256 (([] : List Int)) 0) = some r := by rw [if_neg (show ¬ (false = true) by decide)] at H; exact H
                  clear H
                  have H := H1
                  clear H1
                  obtain ⟨y262, hy262⟩ : ∃ y_ : List Int, y_ = (([] : List Int)) := ⟨_, rfl⟩
                  replace H : (laws_FnOctals.l0 kj13 l1 t240 t243 t248 t256 y262 0) = some r := by first | (rw [hy262]; with_reducible exact H) | (have H2_ := (Option.bind_some _ _).symm.trans H; rw [hy262]; with_reducible exact H2_) | (have H2_ := (Option.bind_some _ _).symm.trans H; with_reducible exact H2_) | with_reducible exact H | (rw [hy262]; exact H) | exact H
                  have Ny262 := Aside0.mk hy262
                  clear hy262
                  have H' := Aside0.mk H
                  clear H
                  go_wp2_with (first | ((with_reducible refine gate_dst (N := 96) rfl ?_); (try (refine gate_guard (by rfl) ?_; dsimp only)); refine Kd.R_lit (Kd.int .u16) _ 44 ?hg (N := 96) ?hd (xs := ([] : List Int)) (inner := []) (ok := fun _ => True) (okp := fun _ => True) ?hr ?hp (fun _ hk => hk) trivial (Below.refl _ _) (Nat.le_refl _) (by simp) ?_; (case hd => rfl); (case hg => rfl); (case hr => first | (go_simp; done) | (go_simp; rfl)); (case hp => exact (Reps.none _ _)); intro v263 w43 ho44 hb hg_ hnew_; clear hg_ hnew_; (first | rw [← Ny262.out] at ho44 | (simp only [Int.reduceToNat] at ho44; rw [← Ny262.out] at ho44)); have n0_ := Aside0.mk (Kd.R_below (by (with_reducible repeat (first | apply Kd.R_alloc | apply Kd.R_drewN | apply Kd.R_drew)); exact HO_5.out) hb); have n1_ := Aside0.mk (Kd.R_elder' (by (with_reducible repeat (first | apply Kd.R_alloc | apply Kd.R_drewN | apply Kd.R_drew)); exact HO_9.out) (Kd.R_base ho44) hb); have n2_ := Aside0.mk (Kd.R_below (by (with_reducible repeat (first | apply Kd.R_alloc | apply Kd.R_drewN | apply Kd.R_drew)); exact HO_13.out) hb); have n3_ := Aside0.mk (Kd.R_lower (Kd.R_new' ho44 (Kd.R_lt (by (with_reducible repeat (first | apply Kd.R_alloc | apply Kd.R_drewN | apply Kd.R_drew)); exact HO_9.out))) (below_size (by repeat (first | (with_reducible first | exact HB.out | apply below_alloc | apply pw_below_drewN | apply below_drew1) | exact HB.out)))); have n4_ := Aside0.mk (below_step (by repeat (first | (with_reducible first | exact HB.out | apply below_alloc | apply pw_below_drewN | apply below_drew1) | exact HB.out)) hb); clear HO_5; clear HO_9; clear HO_13; clear HB; have HO_5 := n0_; have HO_9 := n1_; have HO_13 := n2_; have HO264 := n3_; have HB := n4_; clear n0_ n1_ n2_ n3_ n4_; clear hb ho44))
                  go_loopg [15, 16] kj13 (fun kq v15 v16 w' => ∃ (x15_3 : List Int) (x16_3 : Int), v16 = .int .i64 x16_3 ∧ Aside0 (laws_FnOctals.l0 kq l1 t240 t243 t248 t256 x15_3 x16_3 = some r) ∧ Aside0 (kq ≤ kj13) ∧ Aside0 (Kd.R (Kd.int .u8) 5 w' w.heap.size (fun _ => True) (.slice Ao17 t240.length co17) t240) ∧ Aside0 (Kd.R (Kd.int .u16) 44 w' w.heap.size (fun k_ => some k_ ≠ (v15 : Value).ownBlock) v250 t248) ∧ Aside0 (Kd.R k46 46 w' w.heap.size (fun _ => True) v258 t256) ∧ Aside0 (Kd.R (Kd.int .u16) 44 w' w.heap.size (fun k_ => some k_ ≠ (v250 : Value).ownBlock) v15 x15_3) ∧ Aside0 (Below w.heap.size w w'))
                  case atStart => exact ⟨(y262), (0), (by first | rfl | (simp; done) | (simp [*]; done)), H', ⟨Nat.le_refl _⟩, ⟨by (with_reducible repeat (first | apply Kd.R_alloc | apply Kd.R_drewN | apply Kd.R_drew)); exact HO_5.out⟩, ⟨by (with_reducible repeat (first | apply Kd.R_alloc | apply Kd.R_drewN | apply Kd.R_drew)); exact Kd.R_mono HO_9.out (fun _ hk => hk.2)⟩, ⟨by (with_reducible repeat (first | apply Kd.R_alloc | apply Kd.R_drewN | apply Kd.R_drew)); exact HO_13.out⟩, ⟨by (with_reducible repeat (first | apply Kd.R_alloc | apply Kd.R_drewN | apply Kd.R_drew)); exact Kd.R_mono HO264.out (fun _ hk => hk.2)⟩, ⟨by repeat (first | (with_reducible first | exact HB.out | apply below_alloc | apply pw_below_drewN | apply below_drew1) | exact HB.out)⟩⟩
                  case round =>
                    as_aux_lemma =>
                      clear H'
                      try clear c1
                      try clear c2
                      try clear p2
                      try clear c4
                      try clear c5
                      try clear p6
                      try clear c7
                      try clear c9
                      try clear c18
                      try clear c22
                      try clear c22b0
                      try clear c22b1
                      try clear c23
                      try clear c23b0
                      try clear c23b1
                      try clear c25
                      try clear c26
                      try clear c26b0
                      try clear c26b1
                      try clear c27
                      try clear c27b0
                      try clear c27b1
                      try clear c28
                      try clear c28b0
                      try clear c28b1
                      try clear c41
                      try clear c42
                      try clear c44
                      try clear p2
                      try clear p6
                      obtain ⟨x15_3, x16_3, rfl, HA, HK3, HO_5, HO_9, HO_13, HO_15, HB⟩ := hrel
                      cases gk with
                      | zero => exact absurd HA.out (by simp [laws_FnOctals.l0])
                      | succ k3 =>
                        have H := HA.out
                        clear HA
                        simp only [laws_FnOctals.l0] at H
                        by_cases c45 : x16_3 < (t256.length : Int)
                        · rw [if_pos c45] at H
                          have c45b0 : decide (x16_3 < (t256.length : Int)) = true := decide_eq_true c45
                          clear c45
                          by_cases c46 : 0 ≤ x16_3
                          · rw [if_pos c46] at H
                            have c46b0 : decide (0 ≤ x16_3) = true := decide_eq_true c46
                            clear c46
                            by_cases c47 : ((rd_T46 t256 x16_3).f0) < 0
                            · rw [if_pos c47] at H
                              have c47b0 : decide (((rd_T46 t256 x16_3).f0) < 0) = true := decide_eq_true c47
                              clear c47
                              obtain rfl := Option.some.inj H
                              obtain ⟨Ao48, co48, eo48⟩ := Kd.R_slice HO_13.out
                              subst eo48
                              have p265 : 0 ≤ (x16_3 : Int) := of_decide_eq_true (by first | (with_reducible assumption) | assumption)
                              have q265 : x16_3 < (t256.length : Int) := of_decide_eq_true (by first | (with_reducible assumption) | assumption)
                              obtain ⟨ad265, e265, hx265_0, hx265_1⟩ := at_T46 (Kd.R_reads' HO_13.out).2.2 x16_3 p265 q265
                              cases e265
                              replace p265 := eq_true p265
                              replace q265 := eq_true q265
                              have p266 : 0 ≤ (x16_3 : Int) := of_decide_eq_true (by first | (with_reducible assumption) | assumption)
                              have q266 : x16_3 < (t256.length : Int) := of_decide_eq_true (by first | (with_reducible assumption) | assumption)
                              obtain ⟨ad266, e266, hx266_0, hx266_1⟩ := at_T46 (Kd.R_reads' HO_13.out).2.2 x16_3 p266 q266
                              obtain rfl : ad265 = ad266 := (by injection e266)
                              replace p266 := eq_true p266
                              replace q266 := eq_true q266
                              go_wp2
                              go_ret
                              exact ⟨by first | rfl | (simp [errW_none, errW_some] <;> rfl) | (simp [*, errW_none, errW_some] <;> rfl), by repeat (first | (with_reducible first | exact HB.out | apply below_alloc | apply pw_below_drewN | apply below_drew1) | exact HB.out)⟩
                            · rw [if_neg c47] at H
                              have c47b0 : decide (((rd_T46 t256 x16_3).f0) < 0) = false := decide_eq_false c47
                              clear c47
                              by_cases c49 : ((rd_T46 t256 x16_3).f1) < ((rd_T46 t256 x16_3).f0)
                              · rw [if_pos c49] at H
                                have c49b0 : decide (((rd_T46 t256 x16_3).f1) < ((rd_T46 t256 x16_3).f0)) = true := decide_eq_true c49
                                clear c49
                                obtain rfl := Option.some.inj H
                                obtain ⟨Ao50, co50, eo50⟩ := Kd.R_slice HO_13.out
                                subst eo50
                                have p265 : 0 ≤ (x16_3 : Int) := of_decide_eq_true (by first | (with_reducible assumption) | assumption)
                                have q265 : x16_3 < (t256.length : Int) := of_decide_eq_true (by first | (with_reducible assumption) | assumption)
                                obtain ⟨ad265, e265, hx265_0, hx265_1⟩ := at_T46 (Kd.R_reads' HO_13.out).2.2 x16_3 p265 q265
                                cases e265
                                replace p265 := eq_true p265
                                replace q265 := eq_true q265
                                have p266 : 0 ≤ (x16_3 : Int) := of_decide_eq_true (by first | (with_reducible assumption) | assumption)
                                have q266 : x16_3 < (t256.length : Int) := of_decide_eq_true (by first | (with_reducible assumption) | assumption)
                                obtain ⟨ad266, e266, hx266_0, hx266_1⟩ := at_T46 (Kd.R_reads' HO_13.out).2.2 x16_3 p266 q266
                                obtain rfl : ad265 = ad266 := (by injection e266)
                                replace p266 := eq_true p266
                                replace q266 := eq_true q266
                                go_wp2
                                go_ret
                                exact ⟨by first | rfl | (simp [errW_none, errW_some] <;> rfl) | (simp [*, errW_none, errW_some] <;> rfl), by repeat (first | (with_reducible first | exact HB.out | apply below_alloc | apply pw_below_drewN | apply below_drew1) | exact HB.out)⟩
                              · rw [if_neg c49] at H
                                have c49b0 : decide (((rd_T46 t256 x16_3).f1) < ((rd_T46 t256 x16_3).f0)) = false := decide_eq_false c49
                                clear c49
                                by_cases c51 : (wrap64 (((rd_T46 t256 x16_3).f0) + ((rd_T46 t256 x16_3).f1))) ≥ t243
                                · rw [if_pos c51] at H
                                  have c51b0 : decide (t243 ≤ (wrap64 (((rd_T46 t256 x16_3).f0) + ((rd_T46 t256 x16_3).f1)))) = true := decide_eq_true c51
                                  clear c51
                                  obtain rfl := Option.some.inj H
                                  obtain ⟨Ao52, co52, eo52⟩ := Kd.R_slice HO_13.out
                                  subst eo52
                                  have p265 : 0 ≤ (x16_3 : Int) := of_decide_eq_true (by first | (with_reducible assumption) | assumption)
                                  have q265 : x16_3 < (t256.length : Int) := of_decide_eq_true (by first | (with_reducible assumption) | assumption)
                                  obtain ⟨ad265, e265, hx265_0, hx265_1⟩ := at_T46 (Kd.R_reads' HO_13.out).2.2 x16_3 p265 q265
                                  cases e265
                                  replace p265 := eq_true p265
                                  replace q265 := eq_true q265
                                  have p266 : 0 ≤ (x16_3 : Int) := of_decide_eq_true (by first | (with_reducible assumption) | assumption)
                                  have q266 : x16_3 < (t256.length : Int) := of_decide_eq_true (by first | (with_reducible assumption) | assumption)
                                  obtain ⟨ad266, e266, hx266_0, hx266_1⟩ := at_T46 (Kd.R_reads' HO_13.out).2.2 x16_3 p266 q266
                                  obtain rfl : ad265 = ad266 := (by injection e266)
                                  replace p266 := eq_true p266
                                  replace q266 := eq_true q266
                                  go_wp2
                                  go_ret
                                  exact ⟨by first | rfl | (simp [errW_none, errW_some] <;> rfl) | (simp [*, errW_none, errW_some] <;> rfl), by repeat (first | (with_reducible first | exact HB.out | apply below_alloc | apply pw_below_drewN | apply below_drew1) | exact HB.out)⟩
                                · rw [if_neg c51] at H
                                  have c51b0 : decide (t243 ≤ (wrap64 (((rd_T46 t256 x16_3).f0) + ((rd_T46 t256 x16_3).f1)))) = false := decide_eq_false c51
                                  clear c51
                                  by_cases c53 : (wrap64 ((wrap64 (t243 - ((rd_T46 t256 x16_3).f0))) - ((rd_T46 t256 x16_3).f1))) > (t240.length : Int)
                                  · rw [if_pos c53] at H
                                    have c53b0 : decide ((t240.length : Int) < (wrap64 ((wrap64 (t243 - ((rd_T46 t256 x16_3).f0))) - ((rd_T46 t256 x16_3).f1)))) = true := decide_eq_true c53
                                    clear c53
                                    obtain rfl := Option.some.inj H
                                    obtain ⟨Ao54, co54, eo54⟩ := Kd.R_slice HO_13.out
                                    subst eo54
                                    have p265 : 0 ≤ (x16_3 : Int) := of_decide_eq_true (by first | (with_reducible assumption) | assumption)
                                    have q265 : x16_3 < (t256.length : Int) := of_decide_eq_true (by first | (with_reducible assumption) | assumption)
                                    obtain ⟨ad265, e265, hx265_0, hx265_1⟩ := at_T46 (Kd.R_reads' HO_13.out).2.2 x16_3 p265 q265
                                    cases e265
                                    replace p265 := eq_true p265
                                    replace q265 := eq_true q265
                                    have p266 : 0 ≤ (x16_3 : Int) := of_decide_eq_true (by first | (with_reducible assumption) | assumption)
                                    have q266 : x16_3 < (t256.length : Int) := of_decide_eq_true (by first | (with_reducible assumption) | assumption)
                                    obtain ⟨ad266, e266, hx266_0, hx266_1⟩ := at_T46 (Kd.R_reads' HO_13.out).2.2 x16_3 p266 q266
                                    obtain rfl : ad265 = ad266 := (by injection e266)
                                    replace p266 := eq_true p266
                                    replace q266 := eq_true q266
                                    go_wp2
                                    go_ret
                                    exact ⟨by first | rfl | (simp [errW_none, errW_some] <;> rfl) | (simp [*, errW_none, errW_some] <;> rfl), by repeat (first | (with_reducible first | exact HB.out | apply below_alloc | apply pw_below_drewN | apply below_drew1) | exact HB.out)⟩
                                  · rw [if_neg c53] at H
                                    have c53b0 : decide ((t240.length : Int) < (wrap64 ((wrap64 (t243 - ((rd_T46 t256 x16_3).f0))) - ((rd_T46 t256 x16_3).f1)))) = false := decide_eq_false c53
                                    clear c53
                                    by_cases c55 : 0 ≤ ((rd_T46 t256 x16_3).f0)
                                    · rw [if_pos c55] at H
                                      have c55b0 : decide (0 ≤ ((rd_T46 t256 x16_3).f0)) = true := decide_eq_true c55
                                      clear c55
                                      by_cases c56 : ((rd_T46 t256 x16_3).f0) < (t248.length : Int)
                                      · rw [if_pos c56] at H
                                        have c56b0 : decide (((rd_T46 t256 x16_3).f0) < (t248.length : Int)) = true := decide_eq_true c56
                                        clear c56
                                        by_cases c57 : 0 ≤ ((rd_T46 t256 x16_3).f1)
                                        · rw [if_pos c57] at H
                                          have c57b0 : decide (0 ≤ ((rd_T46 t256 x16_3).f1)) = true := decide_eq_true c57
                                          clear c57
                                          by_cases c58 : ((rd_T46 t256 x16_3).f1) < (t248.length : Int)
                                          · rw [if_pos c58] at H
                                            have c58b0 : decide (((rd_T46 t256 x16_3).f1) < (t248.length : Int)) = true := decide_eq_true c58
                                            clear c58
                                            replace H := Option.bind_eq_some_iff.mp H
                                            obtain ⟨t269, A590, H⟩ := H
                                            replace H : (if x15_3.length < 70368744177664 then (laws_FnOctals.l0 k3 l1 t240 t243 t248 t256 (x15_3 ++ [t269]) (wrap64 (x16_3 + 1))) else (none)) = some r := H
                                            have A59 := Aside0.mk A590
                                            clear A590
                                            by_cases c60 : x15_3.length < 70368744177664
                                            · rw [if_pos c60] at H
                                              have LMc60 := Aside0.mk c60
                                              clear c60
                                              obtain ⟨y270, hy270⟩ : ∃ y_ : List Int, y_ = (x15_3 ++ [t269]) := ⟨_, rfl⟩
                                              replace H : (laws_FnOctals.l0 k3 l1 t240 t243 t248 t256 y270 (wrap64 (x16_3 + 1))) = some r := by first | (rw [hy270]; with_reducible exact H) | (have H2_ := (Option.bind_some _ _).symm.trans H; rw [hy270]; with_reducible exact H2_) | (have H2_ := (Option.bind_some _ _).symm.trans H; with_reducible exact H2_) | with_reducible exact H | (rw [hy270]; exact H) | exact H
                                              have Ny270 := Aside0.mk hy270
                                              clear hy270
                                              have H' := Aside0.mk H
                                              clear H
                                              obtain ⟨Ao61, co61, eo61⟩ := Kd.R_slice HO_13.out
                                              subst eo61
                                              have p265 : 0 ≤ (x16_3 : Int) := of_decide_eq_true (by first | (with_reducible assumption) | assumption)
                                              have q265 : x16_3 < (t256.length : Int) := of_decide_eq_true (by first | (with_reducible assumption) | assumption)
                                              obtain ⟨ad265, e265, hx265_0, hx265_1⟩ := at_T46 (Kd.R_reads' HO_13.out).2.2 x16_3 p265 q265
                                              cases e265
                                              replace p265 := eq_true p265
                                              replace q265 := eq_true q265
                                              have p266 : 0 ≤ (x16_3 : Int) := of_decide_eq_true (by first | (with_reducible assumption) | assumption)
                                              have q266 : x16_3 < (t256.length : Int) := of_decide_eq_true (by first | (with_reducible assumption) | assumption)
                                              obtain ⟨ad266, e266, hx266_0, hx266_1⟩ := at_T46 (Kd.R_reads' HO_13.out).2.2 x16_3 p266 q266
                                              obtain rfl : ad265 = ad266 := (by injection e266)
                                              replace p266 := eq_true p266
                                              replace q266 := eq_true q266
                                              try go_wp2
                                              have n0_ := Aside0.mk (Kd.R_drew HO_5.out)
                                              have n1_ := Aside0.mk (Kd.R_drew HO_9.out)
                                              have n2_ := Aside0.mk (Kd.R_drew HO_13.out)
                                              have n3_ := Aside0.mk (Kd.R_drew HO_15.out)
                                              have n4_ := Aside0.mk (below_drew1 HB.out)
                                              clear HO_5
                                              clear HO_9
                                              clear HO_13
                                              clear HO_15
                                              clear HB
                                              have HO_5 := n0_
                                              have HO_9 := n1_
                                              have HO_13 := n2_
                                              have HO_15 := n3_
                                              have HB := n4_
                                              clear n0_ n1_ n2_ n3_ n4_
                                              obtain ⟨Ao63, co63, eo63⟩ := Kd.R_slice HO_9.out
                                              (first | subst eo63 | (injection eo63 with f1_ f2_ f3_; have f4_ := f1_.symm; have f5_ := f3_.symm; clear f1_ f2_ f3_; subst f4_; subst f5_))
                                              have p267 : 0 ≤ (((rd_T46 t256 x16_3).f0) : Int) := of_decide_eq_true (by first | (with_reducible assumption) | assumption)
                                              have q267 : ((rd_T46 t256 x16_3).f0) < (t248.length : Int) := of_decide_eq_true (by first | (with_reducible assumption) | assumption)
                                              obtain ⟨ad267, e267, hx267_0⟩ := Kd.at_int (Kd.R_reads' HO_9.out).2.2 ((rd_T46 t256 x16_3).f0) p267 q267
                                              cases e267
                                              replace p267 := eq_true p267
                                              replace q267 := eq_true q267
                                              have p268 : 0 ≤ (((rd_T46 t256 x16_3).f1) : Int) := of_decide_eq_true (by first | (with_reducible assumption) | assumption)
                                              have q268 : ((rd_T46 t256 x16_3).f1) < (t248.length : Int) := of_decide_eq_true (by first | (with_reducible assumption) | assumption)
                                              obtain ⟨ad268, e268, hx268_0⟩ := Kd.at_int (Kd.R_reads' HO_9.out).2.2 ((rd_T46 t256 x16_3).f1) p268 q268
                                              obtain rfl : ad267 = ad268 := (by injection e268)
                                              replace p268 := eq_true p268
                                              replace q268 := eq_true q268
                                              refine start_ (n := 13) (S := fun w' => w'.cell? (ad267.add (((rd_T46 t256 x16_3).f0)).toNat) = some (.int .u16 (rd t248 ((rd_T46 t256 x16_3).f0))) ∧ w'.cell? (ad267.add (((rd_T46 t256 x16_3).f1)).toNat) = some (.int .u16 (rd t248 ((rd_T46 t256 x16_3).f1)))) (ds := [10, 11]) #[false, false, false, false, false, false, false, false, false, false, false, false, false] (by kernel_rfl) rfl rfl ⟨hx267_0, hx268_0⟩ (fun hHeld => ?_); refine with_tabW laws_FnOctals.tab19 laws_FnOctals.bits19 (fun HT_ HW_ => ?_)
                                              generalize wr.drew = w62 at HO_5 HO_9 HO_13 HO_15 HB hx267_0 hx268_0 hHeld ⊢
                                              refine pure_ (i := 0) (N := some 137) (v := ?_) (a' := ?_) #[true, false, false, false, false, false, false, false, false, false, false, false, false] rfl rfl (any_of HT_.out (by kernel_rfl)) (fun _ _ _ h => h) (Or.inl ⟨by rfl, ?_⟩) ?_ ?_
                                              rotate_left
                                              · intro w'
                                                go_simp
                                                with_reducible rfl
                                              rotate_left
                                              · simp only [Act.put, List.setIfInBounds_toArray, List.set_cons_zero, List.set_cons_succ, i64_w, i32_w]
                                                rfl
                                              refine pure_ (i := 1) (N := some 138) (v := ?_) (a' := ?_) #[true, true, false, false, false, false, false, false, false, false, false, false, false] rfl rfl (any_of HT_.out (by kernel_rfl)) (fun _ _ _ h => h) (Or.inl ⟨by rfl, ?_⟩) ?_ ?_
                                              rotate_left
                                              · intro w'
                                                go_simp
                                                with_reducible rfl
                                              rotate_left
                                              · simp only [Act.put, List.setIfInBounds_toArray, List.set_cons_zero, List.set_cons_succ, i64_w, i32_w]
                                                rfl
                                              refine pure_ (i := 2) (N := some 139) (v := ?_) (a' := ?_) #[true, true, true, false, false, false, false, false, false, false, false, false, false] rfl rfl (any_of HT_.out (by kernel_rfl)) (fun _ _ _ h => h) (Or.inl ⟨by rfl, ?_⟩) ?_ ?_
                                              rotate_left
                                              · intro w'
                                                go_simp
                                                with_reducible rfl
                                              rotate_left
                                              · simp only [Act.put, List.setIfInBounds_toArray, List.set_cons_zero, List.set_cons_succ, i64_w, i32_w]
                                                rfl
                                              refine pure_ (i := 3) (N := some 140) (v := ?_) (a' := ?_) #[true, true, true, true, false, false, false, false, false, false, false, false, false] rfl rfl (any_of HT_.out (by kernel_rfl)) (fun _ _ _ h => h) (Or.inl ⟨by rfl, ?_⟩) ?_ ?_
                                              rotate_left
                                              · intro w'
                                                go_simp
                                                with_reducible rfl
                                              rotate_left
                                              · simp only [Act.put, List.setIfInBounds_toArray, List.set_cons_zero, List.set_cons_succ, i64_w, i32_w]
                                                rfl
                                              refine pure_ (i := 5) (N := some 142) (v := ?_) (a' := ?_) #[true, true, true, true, false, true, false, false, false, false, false, false, false] rfl rfl (any_of HT_.out (by kernel_rfl)) (fun _ _ _ h => h) (Or.inl ⟨by rfl, ?_⟩) ?_ ?_
                                              rotate_left
                                              · intro w'
                                                go_simp
                                                with_reducible rfl
                                              rotate_left
                                              · simp only [Act.put, List.setIfInBounds_toArray, List.set_cons_zero, List.set_cons_succ, i64_w, i32_w]
                                                rfl
                                              refine pure_ (i := 6) (N := some 143) (v := ?_) (a' := ?_) #[true, true, true, true, false, true, true, false, false, false, false, false, false] rfl rfl (any_of HT_.out (by kernel_rfl)) (fun _ _ _ h => h) (Or.inl ⟨by rfl, ?_⟩) ?_ ?_
                                              rotate_left
                                              · intro w'
                                                go_simp
                                                with_reducible rfl
                                              rotate_left
                                              · simp only [Act.put, List.setIfInBounds_toArray, List.set_cons_zero, List.set_cons_succ, i64_w, i32_w]
                                                rfl
                                              refine pure_ (i := 7) (N := some 144) (v := ?_) (a' := ?_) #[true, true, true, true, false, true, true, true, false, false, false, false, false] rfl rfl (any_of HT_.out (by kernel_rfl)) (fun _ _ _ h => h) (Or.inl ⟨by rfl, ?_⟩) ?_ ?_
                                              rotate_left
                                              · intro w'
                                                go_simp
                                                with_reducible rfl
                                              rotate_left
                                              · simp only [Act.put, List.setIfInBounds_toArray, List.set_cons_zero, List.set_cons_succ, i64_w, i32_w]
                                                rfl
                                              refine take_ (i := 4) (N := some 141) (v := ?_) (a' := ?_) #[true, true, true, true, true, true, true, true, false, false, false, false, false] rfl rfl (take_ofW HT_.out HW_.out (by kernel_rfl)) (fun _ _ _ h => h) (Or.inl ⟨by rfl, ?_⟩) hHeld ?_ ?_
                                              rotate_left
                                              · rintro w' ⟨s0, s1⟩
                                                go_simp
                                                with_reducible rfl
                                              rotate_left
                                              · simp only [Act.put, List.setIfInBounds_toArray, List.set_cons_zero, List.set_cons_succ, i64_w, i32_w]
                                                rfl
                                              refine take_ (i := 8) (N := some 145) (v := ?_) (a' := ?_) #[true, true, true, true, true, true, true, true, true, false, false, false, false] rfl rfl (take_ofW HT_.out HW_.out (by kernel_rfl)) (fun _ _ _ h => h) (Or.inl ⟨by rfl, ?_⟩) hHeld ?_ ?_
                                              rotate_left
                                              · rintro w' ⟨s0, s1⟩
                                                go_simp
                                                with_reducible rfl
                                              rotate_left
                                              · simp only [Act.put, List.setIfInBounds_toArray, List.set_cons_zero, List.set_cons_succ, i64_w, i32_w]
                                                rfl
                                              refine one_ (i := 9) (N := some 146) #[true, true, true, true, true, true, true, true, true, true, false, false, false] rfl rfl (one_of HT_.out (by kernel_rfl)) (by decide) (fun K hK => ?_)
                                              refine goes_ Try.func27 (by kernel_rfl) rfl #[.int .u16 (rd t248 ((rd_T46 t256 x16_3).f0)), .int .u16 (rd t248 ((rd_T46 t256 x16_3).f1))] (by rfl) rfl rfl (by (try simp only [List.map_toArray, List.map_cons, List.map_nil]); first | done | rfl | (simp only [List.length_drop, List.length_take]; rfl)) ?_
                                              with_reducible refine (impl_PlusNim.calls (rd t248 ((rd_T46 t256 x16_3).f0)) (rd t248 ((rd_T46 t256 x16_3).f1)) t269 _ A59.out).mono ?_
                                              rintro e w' ⟨rfl, ⟨nd, rfl⟩⟩
                                              refine ⟨_, rfl, ?_⟩
                                              refine hK.out _ _ ⟨hHeld.1, hHeld.2⟩ (fun hHeld => ?_)
                                              clear hK K
                                              refine norm_ (a' := ?_) ?_ ?_
                                              rotate_left
                                              · show Act.put _ (some 146) _ = _
                                                simp only [Act.put, List.setIfInBounds_toArray, List.set_cons_zero, List.set_cons_succ, i64_w, i32_w]
                                                rfl
                                              refine last_ (i := 10) (N := some 147) #[true, true, true, true, true, true, true, true, true, true, true, false, false] rfl rfl (one_of HT_.out (by kernel_rfl)) (by decide) (fun K hK => ?_)
                                              refine value_ (w1 := ?_) (v := ?_) (by rfl) rfl ?_ ?_
                                              rotate_left 2
                                              · go_simp
                                                constructor
                                                · rfl
                                                · rfl
                                              refine hK.out _ _ ?_
                                              clear hK K
                                              refine norm_ (a' := ?_) ?_ ?_
                                              rotate_left
                                              · show Act.put _ (some 147) _ = _
                                                simp only [Act.put, List.setIfInBounds_toArray, List.set_cons_zero, List.set_cons_succ, i64_w, i32_w]
                                                rfl
                                              refine last_ (i := 11) (N := some 148) #[true, true, true, true, true, true, true, true, true, true, true, true, false] rfl rfl (one_of HT_.out (by kernel_rfl)) (by decide) (fun K hK => ?_)
                                              refine Kd.R_append_step (Kd.int .u16) (w0 := w) w.heap.size (by rfl) (.tmp 137) (.tmp 147) 37 44 (.int .u16 0) 2 rfl Try.underlying37 info44 rfl (by decide) (by omega) u15 x15_3 t269 [.int .u16 t269] (fun k_ => some k_ ≠ (.slice (some ad267) t248.length co63 : Value).ownBlock) (fun _ => False) rfl rfl ?aP (fun _ hk => hk.elim) ?aF ?aO ?aB ?aS ?aL ?_
                                              (case aP => exact rfl)
                                              (case aB => exact (by repeat (first | (with_reducible first | exact HB.out | apply below_alloc | apply pw_below_drewN | apply below_drew1) | exact HB.out)))
                                              (case aF => exact (fun k_ hk => Kd.fresh' (Kd.R_lt (by (with_reducible repeat (first | apply Kd.R_alloc | apply Kd.R_drewN | apply Kd.R_drew)); exact HO_9.out)) k_ hk))
                                              (case aO => exact (by (with_reducible repeat (first | apply Kd.R_alloc | apply Kd.R_drewN | apply Kd.R_drew)); exact HO_15.out))
                                              (case aS => exact (below_size (by repeat (first | (with_reducible first | exact HB.out | apply below_alloc | apply pw_below_drewN | apply below_drew1) | exact HB.out))))
                                              (case aL => have := LMc60.out; omega)
                                              intro v271 w64 ho hb hg hat
                                              rw [← Ny270.out] at ho
                                              have n0_ := Aside0.mk (Kd.R_over' (by (with_reducible repeat (first | apply Kd.R_alloc | apply Kd.R_drewN | apply Kd.R_drew)); exact HO_5.out) (Kd.R_typed (by (with_reducible repeat (first | apply Kd.R_alloc | apply Kd.R_drewN | apply Kd.R_drew)); exact HO_15.out)) (by decide) hg)
                                              have n1_ := Aside0.mk (Kd.R_after (ok := (fun _ => True)) (by (with_reducible repeat (first | apply Kd.R_alloc | apply Kd.R_drewN | apply Kd.R_drew)); exact Kd.R_mono HO_9.out (fun _ hk => ⟨trivial, hk⟩)) hg hat)
                                              have n2_ := Aside0.mk (Kd.R_over' (by (with_reducible repeat (first | apply Kd.R_alloc | apply Kd.R_drewN | apply Kd.R_drew)); exact HO_13.out) (Kd.R_typed (by (with_reducible repeat (first | apply Kd.R_alloc | apply Kd.R_drewN | apply Kd.R_drew)); exact HO_15.out)) (by decide) hg)
                                              have n3_ := Aside0.mk (hb)
                                              have n4_ := Aside0.mk (ho)
                                              clear HO_5
                                              clear HO_9
                                              clear HO_13
                                              clear HB
                                              clear HO_15
                                              have HO_5 := n0_
                                              have HO_9 := n1_
                                              have HO_13 := n2_
                                              have HB := n3_
                                              have HO272 := n4_
                                              clear n0_ n1_ n2_ n3_ n4_
                                              clear ho hb hg hat
                                              refine hK.out _ _ ?_
                                              clear hK K
                                              refine norm_ (a' := ?_) ?_ ?_
                                              rotate_left
                                              · show Act.put _ (some 148) _ = _
                                                simp only [Act.put, List.setIfInBounds_toArray, List.set_cons_zero, List.set_cons_succ, i64_w, i32_w]
                                                rfl
                                              refine pure_ (i := 12) (N := some 15) (v := ?_) (a' := ?_) #[true, true, true, true, true, true, true, true, true, true, true, true, true] rfl rfl (any_of HT_.out (by kernel_rfl)) (fun _ _ _ h => h) (Or.inl ⟨by rfl, ?_⟩) ?_ ?_
                                              rotate_left
                                              · intro w'
                                                go_simp
                                                with_reducible rfl
                                              rotate_left
                                              · simp only [Act.put, List.setIfInBounds_toArray, List.set_cons_zero, List.set_cons_succ, i64_w, i32_w]
                                                rfl
                                              refine done_ (done_of HT_.out (by kernel_rfl)) ?_
                                              try go_wp2
                                              go_roundg k3
                                              case measure => have := HJ2.out; have := HJ13.out; have := HK3.out; omega
                                              case rel => exact ⟨(y270), (wrap64 (x16_3 + 1)), (by first | rfl | (simp; done) | (simp [*]; done)), H', ⟨by have := HJ2.out; have := HJ13.out; have := HK3.out; omega⟩, ⟨by (with_reducible repeat (first | apply Kd.R_alloc | apply Kd.R_drewN | apply Kd.R_drew)); exact HO_5.out⟩, ⟨by (with_reducible repeat (first | apply Kd.R_alloc | apply Kd.R_drewN | apply Kd.R_drew)); exact Kd.R_mono HO_9.out (fun _ hk => hk.2)⟩, ⟨by (with_reducible repeat (first | apply Kd.R_alloc | apply Kd.R_drewN | apply Kd.R_drew)); exact HO_13.out⟩, ⟨by (with_reducible repeat (first | apply Kd.R_alloc | apply Kd.R_drewN | apply Kd.R_drew)); exact HO272.out⟩, ⟨by repeat (first | (with_reducible first | exact HB.out | apply below_alloc | apply pw_below_drewN | apply below_drew1) | exact HB.out)⟩⟩
                                            · rw [if_neg c60] at H
                                              exact absurd H (by simp)
                                          · rw [if_neg c58] at H
                                            exact absurd H (by simp)
                                        · rw [if_neg c57] at H
                                          exact absurd H (by simp)
                                      · rw [if_neg c56] at H
                                        exact absurd H (by simp)
                                    · rw [if_neg c55] at H
                                      exact absurd H (by simp)
                          · rw [if_neg c46] at H
                            exact absurd H (by simp)
                        · rw [if_neg c45] at H
                          have c45b0 : decide (x16_3 < (t256.length : Int)) = false := decide_eq_false c45
                          clear c45
                          replace H := Option.bind_eq_some_iff.mp H
                          obtain ⟨⟨t273, t274⟩, A650, H⟩ := H
                          replace H : (if t274 = 0 then (if 0 ≤ t243 then (if t243 < (t248.length : Int) then (laws_FnOctals.j3 k3 l1 t240 t243 t256 (t273 != (wrap64 (rd t248 t243)))) else (none)) else (none)) else (laws_FnOctals.j3 k3 l1 t240 t243 t256 true)) = some r := H
                          have A65 := Aside0.mk A650
                          clear A650
                          have HC66 := Aside0.mk H
                          clear H
                          obtain ⟨Ao67, co67, eo67⟩ := Kd.R_slice HO_13.out
                          subst eo67
                          obtain ⟨Ao68, co68, eo68⟩ := Kd.R_slice HO_15.out
                          subst eo68
                          go_upto_region 21 with (first | ((with_reducible refine gate_callee (f := 55) rfl ?_); refine goesL_ (some 151) rfl rfl Try.func55 (by kernel_rfl) rfl #[.slice Ao68 x15_3.length co68] rfl (by (try simp only [List.map_toArray, List.map_cons, List.map_nil]); first | done | rfl | (simp only [List.length_drop, List.length_take]; rfl)) ?_; (with_reducible refine (impl_ExcludedBy.calls k3 _ _ x15_3 t273 t274 _ ?side1 ?side2 A65.out).mono ?_); (case side1 => repeat (first | exact (Kd.R_reads' HO_15.out).2.2 | (with_reducible refine Kd.C_alloc ?_ _) | (with_reducible refine Kd.C_drewN ?_ _) | (with_reducible refine Kd.C_drew ?_))); (case side2 => exact (Kd.R_reads' HO_15.out).2.1); rintro e w69 ⟨rfl, hb⟩; refine ⟨_, rfl, ?_⟩; have n0_ := Aside0.mk (Kd.R_below (by (with_reducible repeat (first | apply Kd.R_alloc | apply Kd.R_drewN | apply Kd.R_drew)); exact HO_5.out) hb); have n1_ := Aside0.mk (Kd.R_below (by (with_reducible repeat (first | apply Kd.R_alloc | apply Kd.R_drewN | apply Kd.R_drew)); exact HO_9.out) hb); have n2_ := Aside0.mk (Kd.R_below (by (with_reducible repeat (first | apply Kd.R_alloc | apply Kd.R_drewN | apply Kd.R_drew)); exact HO_13.out) hb); have n3_ := Aside0.mk (Kd.R_below (by (with_reducible repeat (first | apply Kd.R_alloc | apply Kd.R_drewN | apply Kd.R_drew)); exact HO_15.out) hb); have n4_ := Aside0.mk (below_step (by repeat (first | (with_reducible first | exact HB.out | apply below_alloc | apply pw_below_drewN | apply below_drew1) | exact HB.out)) hb); clear HO_5; clear HO_9; clear HO_13; clear HO_15; clear HB; have HO_5 := n0_; have HO_9 := n1_; have HO_13 := n2_; have HO_15 := n3_; have HB := n4_; clear n0_ n1_ n2_ n3_ n4_; (try clear hb); (try clear hb2); (try clear hk); (try clear hi)))
                          (try simp only [Act.put, List.setIfInBounds_toArray, List.set_cons_zero, List.set_cons_succ])
                          go_cut [164] (fun v164 wc => ∃ (kq : Nat) (x164_65 : Bool), v164 = .bool x164_65 ∧ Aside0 (laws_FnOctals.j3 kq l1 t240 t243 t256 x164_65 = some r) ∧ Aside0 (kq ≤ k3) ∧ Aside0 (Kd.R (Kd.int .u8) 5 wc w.heap.size (fun _ => True) (.slice Ao17 t240.length co17) t240) ∧ Aside0 (Kd.R k46 46 wc w.heap.size (fun _ => True) (.slice Ao67 t256.length co67) t256) ∧ Aside0 (Below w.heap.size w wc))
                          case first =>
                            as_aux_lemma =>
                              have H := HC66.out
                              clear HC66
                              by_cases c70 : t274 = 0
                              · rw [if_pos c70] at H
                                have c70b0 : (t274 == 0) = true := beq_iff_eq.mpr c70
                                have c70b1 : (t274 != 0) = false := bne_eq_false_iff_eq.mpr c70
                                clear c70
                                (first | rw [c70b0] | (simp only [i64_w, i32_w]; rw [c70b0]) | skip)
                                by_cases c71 : 0 ≤ t243
                                · rw [if_pos c71] at H
                                  have c71b0 : decide (0 ≤ t243) = true := decide_eq_true c71
                                  clear c71
                                  by_cases c72 : t243 < (t248.length : Int)
                                  · rw [if_pos c72] at H
                                    have c72b0 : decide (t243 < (t248.length : Int)) = true := decide_eq_true c72
                                    clear c72
                                    have H' := Aside0.mk H
                                    clear H
                                    obtain ⟨Ao73, co73, eo73⟩ := Kd.R_slice HO_9.out
                                    subst eo73
                                    have p275 : 0 ≤ (t243 : Int) := of_decide_eq_true (by first | (with_reducible assumption) | assumption)
                                    have q275 : t243 < (t248.length : Int) := of_decide_eq_true (by first | (with_reducible assumption) | assumption)
                                    obtain ⟨ad275, e275, hx275_0⟩ := Kd.at_int (Kd.R_reads' HO_9.out).2.2 t243 p275 q275
                                    cases e275
                                    replace p275 := eq_true p275
                                    replace q275 := eq_true q275
                                    go_wp2
                                    go_meet
                                    case rel => exact ⟨_, ((t273 != (wrap64 (rd t248 t243)))), (by first | rfl | (simp; done) | (simp [*]; done)), H', ⟨by have := HJ2.out; have := HJ13.out; have := HK3.out; first | omega | exact Nat.le_refl _⟩, ⟨by (with_reducible repeat (first | apply Kd.R_alloc | apply Kd.R_drewN | apply Kd.R_drew)); exact HO_5.out⟩, ⟨by (with_reducible repeat (first | apply Kd.R_alloc | apply Kd.R_drewN | apply Kd.R_drew)); exact HO_13.out⟩, ⟨by repeat (first | (with_reducible first | exact HB.out | apply below_alloc | apply pw_below_drewN | apply below_drew1) | exact HB.out)⟩⟩
                                  · rw [if_neg c72] at H
                                    exact absurd H (by simp)
                                · rw [if_neg c71] at H
                                  exact absurd H (by simp)
                              · rw [if_neg c70] at H
                                have c70b0 : (t274 == 0) = false := beq_eq_false_iff_ne.mpr c70
                                have c70b1 : (t274 != 0) = true := bne_iff_ne.mpr c70
                                (first | rw [c70b0] | (simp only [i64_w, i32_w]; rw [c70b0]) | skip)
                                have H' := Aside0.mk H
                                clear H
                                go_wp2
                                go_meet
                                case rel => exact ⟨_, (true), (by first | rfl | (simp; done) | (simp [*]; done)), H', ⟨by have := HJ2.out; have := HJ13.out; have := HK3.out; first | omega | exact Nat.le_refl _⟩, ⟨by (with_reducible repeat (first | apply Kd.R_alloc | apply Kd.R_drewN | apply Kd.R_drew)); exact HO_5.out⟩, ⟨by (with_reducible repeat (first | apply Kd.R_alloc | apply Kd.R_drewN | apply Kd.R_drew)); exact HO_13.out⟩, ⟨by repeat (first | (with_reducible first | exact HB.out | apply below_alloc | apply pw_below_drewN | apply below_drew1) | exact HB.out)⟩⟩
                          case rest =>
                            as_aux_lemma =>
                              clear HC66
                              try clear c1
                              try clear c2
                              try clear p2
                              try clear q2
                              try clear hx2
                              try clear c4
                              try clear c5
                              try clear c6
                              try clear p6
                              try clear c7
                              try clear c9
                              try clear c18
                              try clear c22
                              try clear c22b0
                              try clear c22b1
                              try clear c23
                              try clear c23b0
                              try clear c23b1
                              try clear c25
                              try clear c26
                              try clear c26b0
                              try clear c26b1
                              try clear p26
                              try clear q26
                              try clear hx26
                              try clear c27
                              try clear c27b0
                              try clear c27b1
                              try clear p27
                              try clear q27
                              try clear hx27
                              try clear c28
                              try clear c28b0
                              try clear c28b1
                              try clear c41
                              try clear c42
                              try clear c44
                              try clear c45
                              try clear c45b0
                              try clear c46
                              try clear c46b0
                              try clear c47
                              try clear c47b0
                              try clear c49
                              try clear c49b0
                              try clear c51
                              try clear c51b0
                              try clear c53
                              try clear c53b0
                              try clear c55
                              try clear c55b0
                              try clear c56
                              try clear c56b0
                              try clear c57
                              try clear c57b0
                              try clear c58
                              try clear c58b0
                              try clear c60
                              try clear p64
                              try clear c70
                              try clear c70b0
                              try clear c70b1
                              try clear c71
                              try clear c71b0
                              try clear c72
                              try clear c72b0
                              try clear hx265_0
                              try clear hx265_1
                              try clear hx266_0
                              try clear hx266_1
                              try clear hx267_0
                              try clear hx268_0
                              try clear hx275_0
                              try clear p2
                              try clear p265
                              try clear p266
                              try clear p267
                              try clear p268
                              try clear p275
                              try clear p6
                              try clear q265
                              try clear q266
                              try clear q267
                              try clear q268
                              try clear q275
                              obtain ⟨kq, x164_65, rfl, HA, HJ65, HO_5, HO_13, HB⟩ := hcut
                              cases kq with
                              | zero => exact absurd HA.out (by simp [laws_FnOctals.j3])
                              | succ kj65 =>
                                have H := HA.out
                                clear HA
                                simp only [laws_FnOctals.j3] at H
                                by_cases c74 : x164_65 = true
                                · subst c74
                                  have H1 : (some false) = some r := by rw [if_pos rfl] at H; exact H
                                  clear H
                                  have H := H1
                                  clear H1
                                  obtain rfl := Option.some.inj H
                                  go_wp2
                                  go_ret
                                  exact ⟨by first | rfl | (simp [errW_none, errW_some] <;> rfl) | (simp [*, errW_none, errW_some] <;> rfl), by repeat (first | (with_reducible first | exact HB.out | apply below_alloc | apply pw_below_drewN | apply below_drew1) | exact HB.out)⟩
                                · replace c74 := Bool.eq_false_iff.mpr c74
                                  subst c74
                                  have H1 : (laws_FnOctals.l1 kj65 l1 t240 t243 t256 (([] : List Int)) 0) = some r := by rw [if_neg (show ¬ (false = true) by decide)] at H; exact H
                                  clear H
                                  have H := H1
                                  clear H1
                                  obtain ⟨y276, hy276⟩ : ∃ y_ : List Int, y_ = (([] : List Int)) := ⟨_, rfl⟩
                                  replace H : (laws_FnOctals.l1 kj65 l1 t240 t243 t256 y276 0) = some r := by first | (rw [hy276]; with_reducible exact H) | (have H2_ := (Option.bind_some _ _).symm.trans H; rw [hy276]; with_reducible exact H2_) | (have H2_ := (Option.bind_some _ _).symm.trans H; with_reducible exact H2_) | with_reducible exact H | (rw [hy276]; exact H) | exact H
                                  have Ny276 := Aside0.mk hy276
                                  clear hy276
                                  have H' := Aside0.mk H
                                  clear H
                                  go_wp2_with (first | ((with_reducible refine gate_dst (N := 165) rfl ?_); (try (refine gate_guard (by rfl) ?_; dsimp only)); refine Kd.R_lit (Kd.int .u8) _ 5 ?hg (N := 165) ?hd (xs := ([] : List Int)) (inner := []) (ok := fun _ => True) (okp := fun _ => True) ?hr ?hp (fun _ hk => hk) trivial (Below.refl _ _) (Nat.le_refl _) (by simp) ?_; (case hd => rfl); (case hg => rfl); (case hr => first | (go_simp; done) | (go_simp; rfl)); (case hp => exact (Reps.none _ _)); intro v277 w75 ho76 hb hg_ hnew_; clear hg_ hnew_; (first | rw [← Ny276.out] at ho76 | (simp only [Int.reduceToNat] at ho76; rw [← Ny276.out] at ho76)); have n0_ := Aside0.mk (Kd.R_elder' (by (with_reducible repeat (first | apply Kd.R_alloc | apply Kd.R_drewN | apply Kd.R_drew)); exact HO_5.out) (Kd.R_base ho76) hb); have n1_ := Aside0.mk (Kd.R_below (by (with_reducible repeat (first | apply Kd.R_alloc | apply Kd.R_drewN | apply Kd.R_drew)); exact HO_13.out) hb); have n2_ := Aside0.mk (Kd.R_lower (Kd.R_new' ho76 (Kd.R_lt (by (with_reducible repeat (first | apply Kd.R_alloc | apply Kd.R_drewN | apply Kd.R_drew)); exact HO_5.out))) (below_size (by repeat (first | (with_reducible first | exact HB.out | apply below_alloc | apply pw_below_drewN | apply below_drew1) | exact HB.out)))); have n3_ := Aside0.mk (below_step (by repeat (first | (with_reducible first | exact HB.out | apply below_alloc | apply pw_below_drewN | apply below_drew1) | exact HB.out)) hb); clear HO_5; clear HO_13; clear HB; have HO_5 := n0_; have HO_13 := n1_; have HO278 := n2_; have HB := n3_; clear n0_ n1_ n2_ n3_; clear hb ho76))
                                  go_loopg [21, 22] kj65 (fun kq v21 v22 w' => ∃ (x21_5 : List Int) (x22_5 : Int), v22 = .int .i64 x22_5 ∧ Aside0 (laws_FnOctals.l1 kq l1 t240 t243 t256 x21_5 x22_5 = some r) ∧ Aside0 (kq ≤ kj65) ∧ Aside0 (Kd.R (Kd.int .u8) 5 w' w.heap.size (fun k_ => some k_ ≠ (v21 : Value).ownBlock) (.slice Ao17 t240.length co17) t240) ∧ Aside0 (Kd.R k46 46 w' w.heap.size (fun _ => True) (.slice Ao67 t256.length co67) t256) ∧ Aside0 (Kd.R (Kd.int .u8) 5 w' w.heap.size (fun k_ => some k_ ≠ ((.slice Ao17 t240.length co17) : Value).ownBlock) v21 x21_5) ∧ Aside0 (Below w.heap.size w w'))
                                  case atStart => exact ⟨(y276), (0), (by first | rfl | (simp; done) | (simp [*]; done)), H', ⟨Nat.le_refl _⟩, ⟨by (with_reducible repeat (first | apply Kd.R_alloc | apply Kd.R_drewN | apply Kd.R_drew)); exact Kd.R_mono HO_5.out (fun _ hk => hk.2)⟩, ⟨by (with_reducible repeat (first | apply Kd.R_alloc | apply Kd.R_drewN | apply Kd.R_drew)); exact HO_13.out⟩, ⟨by (with_reducible repeat (first | apply Kd.R_alloc | apply Kd.R_drewN | apply Kd.R_drew)); exact Kd.R_mono HO278.out (fun _ hk => hk.2)⟩, ⟨by repeat (first | (with_reducible first | exact HB.out | apply below_alloc | apply pw_below_drewN | apply below_drew1) | exact HB.out)⟩⟩
                                  case round =>
                                    as_aux_lemma =>
                                      clear H'
                                      try clear c1
                                      try clear c2
                                      try clear p2
                                      try clear q2
                                      try clear hx2
                                      try clear c4
                                      try clear c5
                                      try clear c6
                                      try clear p6
                                      try clear c7
                                      try clear c9
                                      try clear c18
                                      try clear c22
                                      try clear c22b0
                                      try clear c22b1
                                      try clear c23
                                      try clear c23b0
                                      try clear c23b1
                                      try clear c25
                                      try clear c26
                                      try clear c26b0
                                      try clear c26b1
                                      try clear p26
                                      try clear q26
                                      try clear hx26
                                      try clear c27
                                      try clear c27b0
                                      try clear c27b1
                                      try clear p27
                                      try clear q27
                                      try clear hx27
                                      try clear c28
                                      try clear c28b0
                                      try clear c28b1
                                      try clear c41
                                      try clear c42
                                      try clear c44
                                      try clear c45
                                      try clear c45b0
                                      try clear c46
                                      try clear c46b0
                                      try clear c47
                                      try clear c47b0
                                      try clear c49
                                      try clear c49b0
                                      try clear c51
                                      try clear c51b0
                                      try clear c53
                                      try clear c53b0
                                      try clear c55
                                      try clear c55b0
                                      try clear c56
                                      try clear c56b0
                                      try clear c57
                                      try clear c57b0
                                      try clear c58
                                      try clear c58b0
                                      try clear c60
                                      try clear p64
                                      try clear c70
                                      try clear c70b0
                                      try clear c70b1
                                      try clear c71
                                      try clear c71b0
                                      try clear c72
                                      try clear c72b0
                                      try clear c74
                                      try clear hx265_0
                                      try clear hx265_1
                                      try clear hx266_0
                                      try clear hx266_1
                                      try clear hx267_0
                                      try clear hx268_0
                                      try clear hx275_0
                                      try clear p2
                                      try clear p26
                                      try clear p265
                                      try clear p266
                                      try clear p267
                                      try clear p268
                                      try clear p27
                                      try clear p275
                                      try clear p6
                                      try clear p64
                                      try clear q2
                                      try clear q26
                                      try clear q265
                                      try clear q266
                                      try clear q267
                                      try clear q268
                                      try clear q27
                                      try clear q275
                                      obtain ⟨x21_5, x22_5, rfl, HA, HK5, HO_5, HO_13, HO_21, HB⟩ := hrel
                                      cases gk with
                                      | zero => exact absurd HA.out (by simp [laws_FnOctals.l1])
                                      | succ k5 =>
                                        have H := HA.out
                                        clear HA
                                        simp only [laws_FnOctals.l1] at H
                                        by_cases c77 : x22_5 < (t240.length : Int)
                                        · rw [if_pos c77] at H
                                          have c77b0 : decide (x22_5 < (t240.length : Int)) = true := decide_eq_true c77
                                          clear c77
                                          by_cases c78 : 0 ≤ x22_5
                                          · rw [if_pos c78] at H
                                            have c78b0 : decide (0 ≤ x22_5) = true := decide_eq_true c78
                                            clear c78
                                            replace H := Option.bind_eq_some_iff.mp H
                                            obtain ⟨t280, A790, H⟩ := H
                                            replace H : (if x21_5.length < 140737488355328 then (laws_FnOctals.l1 k5 l1 t240 t243 t256 (x21_5 ++ [Go.bits .or .u8 (rd t240 x22_5) ((t280) % 256)]) (wrap64 (x22_5 + 1))) else (none)) = some r := H
                                            have A79 := Aside0.mk A790
                                            clear A790
                                            by_cases c80 : x21_5.length < 140737488355328
                                            · rw [if_pos c80] at H
                                              have LMc80 := Aside0.mk c80
                                              clear c80
                                              obtain ⟨y281, hy281⟩ : ∃ y_ : List Int, y_ = (x21_5 ++ [Go.bits .or .u8 (rd t240 x22_5) ((t280) % 256)]) := ⟨_, rfl⟩
                                              replace H : (laws_FnOctals.l1 k5 l1 t240 t243 t256 y281 (wrap64 (x22_5 + 1))) = some r := by first | (rw [hy281]; with_reducible exact H) | (have H2_ := (Option.bind_some _ _).symm.trans H; rw [hy281]; with_reducible exact H2_) | (have H2_ := (Option.bind_some _ _).symm.trans H; with_reducible exact H2_) | with_reducible exact H | (rw [hy281]; exact H) | exact H
                                              have Ny281 := Aside0.mk hy281
                                              clear hy281
                                              have H' := Aside0.mk H
                                              clear H
                                              try go_wp2
                                              have n0_ := Aside0.mk (Kd.R_drew HO_5.out)
                                              have n1_ := Aside0.mk (Kd.R_drew HO_13.out)
                                              have n2_ := Aside0.mk (Kd.R_drew HO_21.out)
                                              have n3_ := Aside0.mk (below_drew1 HB.out)
                                              clear HO_5
                                              clear HO_13
                                              clear HO_21
                                              clear HB
                                              have HO_5 := n0_
                                              have HO_13 := n1_
                                              have HO_21 := n2_
                                              have HB := n3_
                                              clear n0_ n1_ n2_ n3_
                                              have p279 : 0 ≤ (x22_5 : Int) := of_decide_eq_true (by first | (with_reducible assumption) | assumption)
                                              have q279 : x22_5 < (t240.length : Int) := of_decide_eq_true (by first | (with_reducible assumption) | assumption)
                                              obtain ⟨ad279, e279, hx279_0⟩ := Kd.at_int (Kd.R_reads' HO_5.out).2.2 x22_5 p279 q279
                                              cases e279
                                              replace p279 := eq_true p279
                                              replace q279 := eq_true q279
                                              refine start_ (n := 12) (S := fun w' => w'.cell? (ad279.add (x22_5).toNat) = some (.int .u8 (rd t240 x22_5))) (ds := [9, 10]) #[false, false, false, false, false, false, false, false, false, false, false, false] (by kernel_rfl) rfl rfl (hx279_0) (fun hHeld => ?_); refine with_tabW laws_FnOctals.tab27 laws_FnOctals.bits27 (fun HT_ HW_ => ?_)
                                              generalize wr.drew = w81 at HO_5 HO_13 HO_21 HB hx279_0 hHeld ⊢
                                              refine pure_ (i := 0) (N := some 172) (v := ?_) (a' := ?_) #[true, false, false, false, false, false, false, false, false, false, false, false] rfl rfl (any_of HT_.out (by kernel_rfl)) (fun _ _ _ h => h) (Or.inl ⟨by rfl, ?_⟩) ?_ ?_
                                              rotate_left
                                              · intro w'
                                                go_simp
                                                with_reducible rfl
                                              rotate_left
                                              · simp only [Act.put, List.setIfInBounds_toArray, List.set_cons_zero, List.set_cons_succ, i64_w, i32_w]
                                                rfl
                                              refine pure_ (i := 1) (N := some 173) (v := ?_) (a' := ?_) #[true, true, false, false, false, false, false, false, false, false, false, false] rfl rfl (any_of HT_.out (by kernel_rfl)) (fun _ _ _ h => h) (Or.inl ⟨by rfl, ?_⟩) ?_ ?_
                                              rotate_left
                                              · intro w'
                                                go_simp
                                                with_reducible rfl
                                              rotate_left
                                              · simp only [Act.put, List.setIfInBounds_toArray, List.set_cons_zero, List.set_cons_succ, i64_w, i32_w]
                                                rfl
                                              refine pure_ (i := 2) (N := some 174) (v := ?_) (a' := ?_) #[true, true, true, false, false, false, false, false, false, false, false, false] rfl rfl (any_of HT_.out (by kernel_rfl)) (fun _ _ _ h => h) (Or.inl ⟨by rfl, ?_⟩) ?_ ?_
                                              rotate_left
                                              · intro w'
                                                go_simp
                                                with_reducible rfl
                                              rotate_left
                                              · simp only [Act.put, List.setIfInBounds_toArray, List.set_cons_zero, List.set_cons_succ, i64_w, i32_w]
                                                rfl
                                              refine pure_ (i := 3) (N := some 175) (v := ?_) (a' := ?_) #[true, true, true, true, false, false, false, false, false, false, false, false] rfl rfl (any_of HT_.out (by kernel_rfl)) (fun _ _ _ h => h) (Or.inl ⟨by rfl, ?_⟩) ?_ ?_
                                              rotate_left
                                              · intro w'
                                                go_simp
                                                with_reducible rfl
                                              rotate_left
                                              · simp only [Act.put, List.setIfInBounds_toArray, List.set_cons_zero, List.set_cons_succ, i64_w, i32_w]
                                                rfl
                                              refine pure_ (i := 5) (N := some 177) (v := ?_) (a' := ?_) #[true, true, true, true, false, true, false, false, false, false, false, false] rfl rfl (any_of HT_.out (by kernel_rfl)) (fun _ _ _ h => h) (Or.inl ⟨by rfl, ?_⟩) ?_ ?_
                                              rotate_left
                                              · intro w'
                                                go_simp
                                                with_reducible rfl
                                              rotate_left
                                              · simp only [Act.put, List.setIfInBounds_toArray, List.set_cons_zero, List.set_cons_succ, i64_w, i32_w]
                                                rfl
                                              refine take_ (i := 4) (N := some 176) (v := ?_) (a' := ?_) #[true, true, true, true, true, true, false, false, false, false, false, false] rfl rfl (take_ofW HT_.out HW_.out (by kernel_rfl)) (fun _ _ _ h => h) (Or.inl ⟨by rfl, ?_⟩) hHeld ?_ ?_
                                              rotate_left
                                              · intro w' s0
                                                go_simp
                                                with_reducible rfl
                                              rotate_left
                                              · simp only [Act.put, List.setIfInBounds_toArray, List.set_cons_zero, List.set_cons_succ, i64_w, i32_w]
                                                rfl
                                              refine one_ (i := 6) (N := some 178) #[true, true, true, true, true, true, true, false, false, false, false, false] rfl rfl (one_of HT_.out (by kernel_rfl)) (by decide) (fun K hK => ?_)
                                              refine goes_ Try.func41 (by kernel_rfl) rfl #[.slice A1 l1.length c1, .int .i64 8] (by rfl) rfl rfl (by (try simp only [List.map_toArray, List.map_cons, List.map_nil]); first | done | rfl | (simp only [List.length_drop, List.length_take]; rfl)) ?_
                                              with_reducible refine (spec_P6Pick.calls _ _ l1 8 t280 _ ?side1 ?side2 A79.out).mono ?_
                                              (case side1 => repeat (first | exact (Kd.C_below HR1.out HB.out) | (with_reducible refine Kd.C_alloc ?_ _) | (with_reducible refine Kd.C_drewN ?_ _) | (with_reducible refine Kd.C_drew ?_)))
                                              (case side2 => exact HC1.out)
                                              rintro e w82 ⟨rfl, hb⟩
                                              have HS0_ := (hb.cell (World.block_lt_of_cell? _ _ (hHeld))).trans (hHeld)
                                              refine ⟨_, rfl, ?_⟩
                                              have n0_ := Aside0.mk (Kd.R_below (by (with_reducible repeat (first | apply Kd.R_alloc | apply Kd.R_drewN | apply Kd.R_drew)); exact HO_5.out) hb)
                                              have n1_ := Aside0.mk (Kd.R_below (by (with_reducible repeat (first | apply Kd.R_alloc | apply Kd.R_drewN | apply Kd.R_drew)); exact HO_13.out) hb)
                                              have n2_ := Aside0.mk (Kd.R_below (by (with_reducible repeat (first | apply Kd.R_alloc | apply Kd.R_drewN | apply Kd.R_drew)); exact HO_21.out) hb)
                                              have n3_ := Aside0.mk (below_step (by repeat (first | (with_reducible first | exact HB.out | apply below_alloc | apply pw_below_drewN | apply below_drew1) | exact HB.out)) hb)
                                              clear HO_5
                                              clear HO_13
                                              clear HO_21
                                              clear HB
                                              have HO_5 := n0_
                                              have HO_13 := n1_
                                              have HO_21 := n2_
                                              have HB := n3_
                                              clear n0_ n1_ n2_ n3_
                                              (try clear hb)
                                              (try clear hb2)
                                              (try clear hk)
                                              (try clear hi)
                                              refine hK.out _ _ (HS0_) (fun hHeld => ?_)
                                              clear hK K
                                              refine norm_ (a' := ?_) ?_ ?_
                                              rotate_left
                                              · show Act.put _ (some 178) _ = _
                                                simp only [Act.put, List.setIfInBounds_toArray, List.set_cons_zero, List.set_cons_succ, i64_w, i32_w]
                                                rfl
                                              refine pure_ (i := 7) (N := some 179) (v := ?_) (a' := ?_) #[true, true, true, true, true, true, true, true, false, false, false, false] rfl rfl (any_of HT_.out (by kernel_rfl)) (fun _ _ _ h => h) (Or.inl ⟨by rfl, ?_⟩) ?_ ?_
                                              rotate_left
                                              · intro w'
                                                go_simp
                                                with_reducible rfl
                                              rotate_left
                                              · simp only [Act.put, List.setIfInBounds_toArray, List.set_cons_zero, List.set_cons_succ, i64_w, i32_w]
                                                rfl
                                              refine pure_ (i := 8) (N := some 180) (v := ?_) (a' := ?_) #[true, true, true, true, true, true, true, true, true, false, false, false] rfl rfl (any_of HT_.out (by kernel_rfl)) (fun _ _ _ h => h) (Or.inl ⟨by rfl, ?_⟩) ?_ ?_
                                              rotate_left
                                              · intro w'
                                                go_simp
                                                with_reducible rfl
                                              rotate_left
                                              · simp only [Act.put, List.setIfInBounds_toArray, List.set_cons_zero, List.set_cons_succ, i64_w, i32_w]
                                                rfl
                                              refine last_ (i := 9) (N := some 181) #[true, true, true, true, true, true, true, true, true, true, false, false] rfl rfl (one_of HT_.out (by kernel_rfl)) (by decide) (fun K hK => ?_)
                                              refine value_ (w1 := ?_) (v := ?_) (by rfl) rfl ?_ ?_
                                              rotate_left 2
                                              · go_simp
                                                constructor
                                                · rfl
                                                · rfl
                                              refine hK.out _ _ ?_
                                              clear hK K
                                              refine norm_ (a' := ?_) ?_ ?_
                                              rotate_left
                                              · show Act.put _ (some 181) _ = _
                                                simp only [Act.put, List.setIfInBounds_toArray, List.set_cons_zero, List.set_cons_succ, i64_w, i32_w]
                                                rfl
                                              refine last_ (i := 10) (N := some 182) #[true, true, true, true, true, true, true, true, true, true, true, false] rfl rfl (one_of HT_.out (by kernel_rfl)) (by decide) (fun K hK => ?_)
                                              refine Kd.R_append_step (Kd.int .u8) (w0 := w) w.heap.size (by rfl) (.tmp 172) (.tmp 181) 33 5 (.int .u8 0) 1 rfl Try.underlying33 info5 rfl (by decide) (by omega) u21 x21_5 (Go.bits .or .u8 (rd t240 x22_5) ((t280) % 256)) [.int .u8 (Go.bits .or .u8 (rd t240 x22_5) ((t280) % 256))] (fun k_ => some k_ ≠ (.slice (some ad279) t240.length co17 : Value).ownBlock) (fun _ => False) rfl rfl ?aP (fun _ hk => hk.elim) ?aF ?aO ?aB ?aS ?aL ?_
                                              (case aP => exact rfl)
                                              (case aB => exact (by repeat (first | (with_reducible first | exact HB.out | apply below_alloc | apply pw_below_drewN | apply below_drew1) | exact HB.out)))
                                              (case aF => exact (fun k_ hk => Kd.fresh' (Kd.R_lt (by (with_reducible repeat (first | apply Kd.R_alloc | apply Kd.R_drewN | apply Kd.R_drew)); exact HO_5.out)) k_ hk))
                                              (case aO => exact (by (with_reducible repeat (first | apply Kd.R_alloc | apply Kd.R_drewN | apply Kd.R_drew)); exact HO_21.out))
                                              (case aS => exact (below_size (by repeat (first | (with_reducible first | exact HB.out | apply below_alloc | apply pw_below_drewN | apply below_drew1) | exact HB.out))))
                                              (case aL => have := LMc80.out; omega)
                                              intro v282 w83 ho hb hg hat
                                              rw [← Ny281.out] at ho
                                              have n0_ := Aside0.mk (Kd.R_after (ok := (fun _ => True)) (by (with_reducible repeat (first | apply Kd.R_alloc | apply Kd.R_drewN | apply Kd.R_drew)); exact Kd.R_mono HO_5.out (fun _ hk => ⟨trivial, hk⟩)) hg hat)
                                              have n1_ := Aside0.mk (Kd.R_over' (by (with_reducible repeat (first | apply Kd.R_alloc | apply Kd.R_drewN | apply Kd.R_drew)); exact HO_13.out) (Kd.R_typed (by (with_reducible repeat (first | apply Kd.R_alloc | apply Kd.R_drewN | apply Kd.R_drew)); exact HO_21.out)) (by decide) hg)
                                              have n2_ := Aside0.mk (hb)
                                              have n3_ := Aside0.mk (ho)
                                              clear HO_5
                                              clear HO_13
                                              clear HB
                                              clear HO_21
                                              have HO_5 := n0_
                                              have HO_13 := n1_
                                              have HB := n2_
                                              have HO283 := n3_
                                              clear n0_ n1_ n2_ n3_
                                              clear ho hb hg hat
                                              refine hK.out _ _ ?_
                                              clear hK K
                                              refine norm_ (a' := ?_) ?_ ?_
                                              rotate_left
                                              · show Act.put _ (some 182) _ = _
                                                simp only [Act.put, List.setIfInBounds_toArray, List.set_cons_zero, List.set_cons_succ, i64_w, i32_w]
                                                rfl
                                              refine pure_ (i := 11) (N := some 21) (v := ?_) (a' := ?_) #[true, true, true, true, true, true, true, true, true, true, true, true] rfl rfl (any_of HT_.out (by kernel_rfl)) (fun _ _ _ h => h) (Or.inl ⟨by rfl, ?_⟩) ?_ ?_
                                              rotate_left
                                              · intro w'
                                                go_simp
                                                with_reducible rfl
                                              rotate_left
                                              · simp only [Act.put, List.setIfInBounds_toArray, List.set_cons_zero, List.set_cons_succ, i64_w, i32_w]
                                                rfl
                                              refine done_ (done_of HT_.out (by kernel_rfl)) ?_
                                              try go_wp2
                                              go_roundg k5
                                              case measure => have := HJ2.out; have := HJ13.out; have := HK3.out; have := HJ65.out; have := HK5.out; omega
                                              case rel => exact ⟨(y281), (wrap64 (x22_5 + 1)), (by first | rfl | (simp; done) | (simp [*]; done)), H', ⟨by have := HJ2.out; have := HJ13.out; have := HK3.out; have := HJ65.out; have := HK5.out; omega⟩, ⟨by (with_reducible repeat (first | apply Kd.R_alloc | apply Kd.R_drewN | apply Kd.R_drew)); exact Kd.R_mono HO_5.out (fun _ hk => hk.2)⟩, ⟨by (with_reducible repeat (first | apply Kd.R_alloc | apply Kd.R_drewN | apply Kd.R_drew)); exact HO_13.out⟩, ⟨by (with_reducible repeat (first | apply Kd.R_alloc | apply Kd.R_drewN | apply Kd.R_drew)); exact HO283.out⟩, ⟨by repeat (first | (with_reducible first | exact HB.out | apply below_alloc | apply pw_below_drewN | apply below_drew1) | exact HB.out)⟩⟩
                                            · rw [if_neg c80] at H
                                              exact absurd H (by simp)
                                          · rw [if_neg c78] at H
                                            exact absurd H (by simp)
                                        · rw [if_neg c77] at H
                                          have c77b0 : decide (x22_5 < (t240.length : Int)) = false := decide_eq_false c77
                                          clear c77
                                          replace H := Option.bind_eq_some_iff.mp H
                                          obtain ⟨⟨t284, t285⟩, A840, H⟩ := H
                                          replace H : (if t285 = 0 then (laws_FnOctals.j5 k5 t256 t284 (decide ((t284.length : Int) < (t256.length : Int)))) else (laws_FnOctals.j5 k5 t256 t284 true)) = some r := H
                                          have A84 := Aside0.mk A840
                                          clear A840
                                          have HC85 := Aside0.mk H
                                          clear H
                                          obtain ⟨Ao86, co86, eo86⟩ := Kd.R_slice HO_21.out
                                          subst eo86
                                          go_upto_region 29 with (first | ((with_reducible refine gate_callee (f := 46) rfl ?_); refine goesL_ (some 186) rfl rfl Try.func46 (by kernel_rfl) rfl #[.slice Ao86 x21_5.length co86, .int .i64 t243] rfl (by (try simp only [List.map_toArray, List.map_cons, List.map_nil]); first | done | rfl | (simp only [List.length_drop, List.length_take]; rfl)) ?_; (with_reducible refine (impl_OctalMoves.calls k5 _ _ x21_5 t243 t284 t285 _ ?side1 ?side2 A84.out).mono ?_); (case side1 => repeat (first | exact (Kd.R_reads' HO_21.out).2.2 | (with_reducible refine Kd.C_alloc ?_ _) | (with_reducible refine Kd.C_drewN ?_ _) | (with_reducible refine Kd.C_drew ?_))); (case side2 => exact (Kd.R_reads' HO_21.out).2.1); rintro e w87 ⟨v286, rfl, ho0, hb⟩; refine ⟨_, rfl, ?_⟩; have n0_ := Aside0.mk (Kd.R_below (by (with_reducible repeat (first | apply Kd.R_alloc | apply Kd.R_drewN | apply Kd.R_drew)); exact HO_5.out) hb); have n1_ := Aside0.mk (Kd.R_elder' (by (with_reducible repeat (first | apply Kd.R_alloc | apply Kd.R_drewN | apply Kd.R_drew)); exact HO_13.out) (Kd.R_base ho0) hb); have n2_ := Aside0.mk (Kd.R_below (by (with_reducible repeat (first | apply Kd.R_alloc | apply Kd.R_drewN | apply Kd.R_drew)); exact HO_21.out) hb); have n3_ := Aside0.mk (Kd.R_lower (Kd.R_new' ho0 (Kd.R_lt (by (with_reducible repeat (first | apply Kd.R_alloc | apply Kd.R_drewN | apply Kd.R_drew)); exact HO_13.out))) (below_size (by repeat (first | (with_reducible first | exact HB.out | apply below_alloc | apply pw_below_drewN | apply below_drew1) | exact HB.out)))); have n4_ := Aside0.mk (below_step (by repeat (first | (with_reducible first | exact HB.out | apply below_alloc | apply pw_below_drewN | apply below_drew1) | exact HB.out)) hb); clear HO_5; clear HO_13; clear HO_21; clear HB; have HO_5 := n0_; have HO_13 := n1_; have HO_21 := n2_; have HO287 := n3_; have HB := n4_; clear n0_ n1_ n2_ n3_ n4_; (try clear hb); (try clear hb2); (try clear hk); (try clear hi); (try clear ho0)))
                                          (try simp only [Act.put, List.setIfInBounds_toArray, List.set_cons_zero, List.set_cons_succ])
                                          go_cut [197] (fun v197 wc => ∃ (kq : Nat) (x197_84 : Bool), v197 = .bool x197_84 ∧ Aside0 (laws_FnOctals.j5 kq t256 t284 x197_84 = some r) ∧ Aside0 (kq ≤ k5) ∧ Aside0 (Kd.R k46 46 wc w.heap.size (fun k_ => some k_ ≠ (v286 : Value).ownBlock) (.slice Ao67 t256.length co67) t256) ∧ Aside0 (Kd.R k46 46 wc w.heap.size (fun k_ => some k_ ≠ ((.slice Ao67 t256.length co67) : Value).ownBlock) v286 t284) ∧ Aside0 (Below w.heap.size w wc))
                                          case first =>
                                            as_aux_lemma =>
                                              have H := HC85.out
                                              clear HC85
                                              by_cases c88 : t285 = 0
                                              · rw [if_pos c88] at H
                                                have c88b0 : (t285 == 0) = true := beq_iff_eq.mpr c88
                                                have c88b1 : (t285 != 0) = false := bne_eq_false_iff_eq.mpr c88
                                                clear c88
                                                (first | rw [c88b0] | (simp only [i64_w, i32_w]; rw [c88b0]) | skip)
                                                have H' := Aside0.mk H
                                                clear H
                                                obtain ⟨Ao89, co89, eo89⟩ := Kd.R_slice HO287.out
                                                subst eo89
                                                go_wp2
                                                go_meet
                                                case rel => exact ⟨_, (decide ((t284.length : Int) < (t256.length : Int))), (by first | rfl | (simp; done) | (simp [*]; done)), H', ⟨by have := HJ2.out; have := HJ13.out; have := HK3.out; have := HJ65.out; have := HK5.out; first | omega | exact Nat.le_refl _⟩, ⟨by (with_reducible repeat (first | apply Kd.R_alloc | apply Kd.R_drewN | apply Kd.R_drew)); exact Kd.R_mono HO_13.out (fun _ hk => hk.2)⟩, ⟨by (with_reducible repeat (first | apply Kd.R_alloc | apply Kd.R_drewN | apply Kd.R_drew)); exact Kd.R_mono HO287.out (fun _ hk => hk.2)⟩, ⟨by repeat (first | (with_reducible first | exact HB.out | apply below_alloc | apply pw_below_drewN | apply below_drew1) | exact HB.out)⟩⟩
                                              · rw [if_neg c88] at H
                                                have c88b0 : (t285 == 0) = false := beq_eq_false_iff_ne.mpr c88
                                                have c88b1 : (t285 != 0) = true := bne_iff_ne.mpr c88
                                                (first | rw [c88b0] | (simp only [i64_w, i32_w]; rw [c88b0]) | skip)
                                                have H' := Aside0.mk H
                                                clear H
                                                go_wp2
                                                go_meet
                                                case rel => exact ⟨_, (true), (by first | rfl | (simp; done) | (simp [*]; done)), H', ⟨by have := HJ2.out; have := HJ13.out; have := HK3.out; have := HJ65.out; have := HK5.out; first | omega | exact Nat.le_refl _⟩, ⟨by (with_reducible repeat (first | apply Kd.R_alloc | apply Kd.R_drewN | apply Kd.R_drew)); exact Kd.R_mono HO_13.out (fun _ hk => hk.2)⟩, ⟨by (with_reducible repeat (first | apply Kd.R_alloc | apply Kd.R_drewN | apply Kd.R_drew)); exact Kd.R_mono HO287.out (fun _ hk => hk.2)⟩, ⟨by repeat (first | (with_reducible first | exact HB.out | apply below_alloc | apply pw_below_drewN | apply below_drew1) | exact HB.out)⟩⟩
                                          case rest =>
                                            as_aux_lemma =>
                                              clear HC85
                                              try clear c1
                                              try clear c2
                                              try clear p2
                                              try clear q2
                                              try clear hx2
                                              try clear c4
                                              try clear c5
                                              try clear c6
                                              try clear p6
                                              try clear c7
                                              try clear c8
                                              try clear c9
                                              try clear c18
                                              try clear c22
                                              try clear c22b0
                                              try clear c22b1
                                              try clear c23
                                              try clear c23b0
                                              try clear c23b1
                                              try clear c25
                                              try clear c26
                                              try clear c26b0
                                              try clear c26b1
                                              try clear p26
                                              try clear q26
                                              try clear hx26
                                              try clear c27
                                              try clear c27b0
                                              try clear c27b1
                                              try clear p27
                                              try clear q27
                                              try clear hx27
                                              try clear c28
                                              try clear c28b0
                                              try clear c28b1
                                              try clear c41
                                              try clear c42
                                              try clear c44
                                              try clear c45
                                              try clear c45b0
                                              try clear c46
                                              try clear c46b0
                                              try clear c47
                                              try clear c47b0
                                              try clear c49
                                              try clear c49b0
                                              try clear c51
                                              try clear c51b0
                                              try clear c53
                                              try clear c53b0
                                              try clear c55
                                              try clear c55b0
                                              try clear c56
                                              try clear c56b0
                                              try clear c57
                                              try clear c57b0
                                              try clear c58
                                              try clear c58b0
                                              try clear c60
                                              try clear p64
                                              try clear c70
                                              try clear c70b0
                                              try clear c70b1
                                              try clear c71
                                              try clear c71b0
                                              try clear c72
                                              try clear c72b0
                                              try clear c74
                                              try clear c77
                                              try clear c77b0
                                              try clear c78
                                              try clear c78b0
                                              try clear c80
                                              try clear c88
                                              try clear c88b0
                                              try clear c88b1
                                              try clear hx265_0
                                              try clear hx265_1
                                              try clear hx266_0
                                              try clear hx266_1
                                              try clear hx267_0
                                              try clear hx268_0
                                              try clear hx275_0
                                              try clear hx279_0
                                              try clear p2
                                              try clear p26
                                              try clear p265
                                              try clear p266
                                              try clear p267
                                              try clear p268
                                              try clear p27
                                              try clear p275
                                              try clear p279
                                              try clear p6
                                              try clear p64
                                              try clear q2
                                              try clear q26
                                              try clear q265
                                              try clear q266
                                              try clear q267
                                              try clear q268
                                              try clear q27
                                              try clear q275
                                              try clear q279
                                              obtain ⟨kq, x197_84, rfl, HA, HJ84, HO_13, HO_23, HB⟩ := hcut
                                              cases kq with
                                              | zero => exact absurd HA.out (by simp [laws_FnOctals.j5])
                                              | succ kj84 =>
                                                have H := HA.out
                                                clear HA
                                                simp only [laws_FnOctals.j5] at H
                                                by_cases c90 : x197_84 = true
                                                · subst c90
                                                  have H1 : (some false) = some r := by rw [if_pos rfl] at H; exact H
                                                  clear H
                                                  have H := H1
                                                  clear H1
                                                  obtain rfl := Option.some.inj H
                                                  go_wp2
                                                  go_ret
                                                  exact ⟨by first | rfl | (simp [errW_none, errW_some] <;> rfl) | (simp [*, errW_none, errW_some] <;> rfl), by repeat (first | (with_reducible first | exact HB.out | apply below_alloc | apply pw_below_drewN | apply below_drew1) | exact HB.out)⟩
                                                · replace c90 := Bool.eq_false_iff.mpr c90
                                                  subst c90
                                                  have H1 : (laws_FnOctals.l2 kj84 t256 t284 0 0) = some r := by rw [if_neg (show ¬ (false = true) by decide)] at H; exact H
                                                  clear H
                                                  have H := H1
                                                  clear H1
                                                  have H' := Aside0.mk H
                                                  clear H
                                                  go_wp2
                                                  go_loopg [25, 26] kj84 (fun kq v25 v26 w' => ∃ (x25_7 : Int) (x26_7 : Int), v25 = .int .i64 x25_7 ∧ v26 = .int .i64 x26_7 ∧ Aside0 (laws_FnOctals.l2 kq t256 t284 x25_7 x26_7 = some r) ∧ Aside0 (kq ≤ kj84) ∧ Aside0 (Kd.R k46 46 w' w.heap.size (fun k_ => some k_ ≠ (v286 : Value).ownBlock) (.slice Ao67 t256.length co67) t256) ∧ Aside0 (Kd.R k46 46 w' w.heap.size (fun k_ => some k_ ≠ ((.slice Ao67 t256.length co67) : Value).ownBlock) v286 t284) ∧ Aside0 (Below w.heap.size w w'))
                                                  case atStart => exact ⟨(0), (0), (by first | rfl | (simp; done) | (simp [*]; done)), (by first | rfl | (simp; done) | (simp [*]; done)), H', ⟨Nat.le_refl _⟩, ⟨by (with_reducible repeat (first | apply Kd.R_alloc | apply Kd.R_drewN | apply Kd.R_drew)); exact HO_13.out⟩, ⟨by (with_reducible repeat (first | apply Kd.R_alloc | apply Kd.R_drewN | apply Kd.R_drew)); exact HO_23.out⟩, ⟨by repeat (first | (with_reducible first | exact HB.out | apply below_alloc | apply pw_below_drewN | apply below_drew1) | exact HB.out)⟩⟩
                                                  case round =>
                                                    as_aux_lemma =>
                                                      clear H'
                                                      try clear c1
                                                      try clear c2
                                                      try clear p2
                                                      try clear q2
                                                      try clear hx2
                                                      try clear c4
                                                      try clear c5
                                                      try clear c6
                                                      try clear p6
                                                      try clear c7
                                                      try clear c8
                                                      try clear c9
                                                      try clear c18
                                                      try clear c22
                                                      try clear c22b0
                                                      try clear c22b1
                                                      try clear c23
                                                      try clear c23b0
                                                      try clear c23b1
                                                      try clear c25
                                                      try clear c26
                                                      try clear c26b0
                                                      try clear c26b1
                                                      try clear p26
                                                      try clear q26
                                                      try clear hx26
                                                      try clear c27
                                                      try clear c27b0
                                                      try clear c27b1
                                                      try clear p27
                                                      try clear q27
                                                      try clear hx27
                                                      try clear c28
                                                      try clear c28b0
                                                      try clear c28b1
                                                      try clear c41
                                                      try clear c42
                                                      try clear c44
                                                      try clear c45
                                                      try clear c45b0
                                                      try clear c46
                                                      try clear c46b0
                                                      try clear c47
                                                      try clear c47b0
                                                      try clear c49
                                                      try clear c49b0
                                                      try clear c51
                                                      try clear c51b0
                                                      try clear c53
                                                      try clear c53b0
                                                      try clear c55
                                                      try clear c55b0
                                                      try clear c56
                                                      try clear c56b0
                                                      try clear c57
                                                      try clear c57b0
                                                      try clear c58
                                                      try clear c58b0
                                                      try clear c60
                                                      try clear p64
                                                      try clear c70
                                                      try clear c70b0
                                                      try clear c70b1
                                                      try clear c71
                                                      try clear c71b0
                                                      try clear c72
                                                      try clear c72b0
                                                      try clear c74
                                                      try clear c77
                                                      try clear c77b0
                                                      try clear c78
                                                      try clear c78b0
                                                      try clear c80
                                                      try clear c88
                                                      try clear c88b0
                                                      try clear c88b1
                                                      try clear c90
                                                      try clear hx265_0
                                                      try clear hx265_1
                                                      try clear hx266_0
                                                      try clear hx266_1
                                                      try clear hx267_0
                                                      try clear hx268_0
                                                      try clear hx275_0
                                                      try clear hx279_0
                                                      try clear p2
                                                      try clear p26
                                                      try clear p265
                                                      try clear p266
                                                      try clear p267
                                                      try clear p268
                                                      try clear p27
                                                      try clear p275
                                                      try clear p279
                                                      try clear p6
                                                      try clear p64
                                                      try clear q2
                                                      try clear q26
                                                      try clear q265
                                                      try clear q266
                                                      try clear q267
                                                      try clear q268
                                                      try clear q27
                                                      try clear q275
                                                      try clear q279
                                                      obtain ⟨x25_7, x26_7, rfl, rfl, HA, HK7, HO_13, HO_23, HB⟩ := hrel
                                                      cases gk with
                                                      | zero => exact absurd HA.out (by simp [laws_FnOctals.l2])
                                                      | succ k7 =>
                                                        have H := HA.out
                                                        clear HA
                                                        simp only [laws_FnOctals.l2] at H
                                                        by_cases c91 : x26_7 < (t256.length : Int)
                                                        · rw [if_pos c91] at H
                                                          have c91b0 : decide (x26_7 < (t256.length : Int)) = true := decide_eq_true c91
                                                          clear c91
                                                          have H' := Aside0.mk H
                                                          clear H
                                                          go_wp2
                                                          go_loopg [25] k7 (fun kq v25 w' => ∃ (x25_8 : Int), v25 = .int .i64 x25_8 ∧ Aside0 (laws_FnOctals.l3 kq t256 t284 x25_8 x26_7 = some r) ∧ Aside0 (kq ≤ k7) ∧ Aside0 (Kd.R k46 46 w' w.heap.size (fun k_ => some k_ ≠ (v286 : Value).ownBlock) (.slice Ao67 t256.length co67) t256) ∧ Aside0 (Kd.R k46 46 w' w.heap.size (fun k_ => some k_ ≠ ((.slice Ao67 t256.length co67) : Value).ownBlock) v286 t284) ∧ Aside0 (Below w.heap.size w w'))
                                                          case atStart => exact ⟨(x25_7), (by first | rfl | (simp; done) | (simp [*]; done)), H', ⟨Nat.le_refl _⟩, ⟨by (with_reducible repeat (first | apply Kd.R_alloc | apply Kd.R_drewN | apply Kd.R_drew)); exact HO_13.out⟩, ⟨by (with_reducible repeat (first | apply Kd.R_alloc | apply Kd.R_drewN | apply Kd.R_drew)); exact HO_23.out⟩, ⟨by repeat (first | (with_reducible first | exact HB.out | apply below_alloc | apply pw_below_drewN | apply below_drew1) | exact HB.out)⟩⟩
                                                          case round =>
                                                            as_aux_lemma =>
                                                              clear H'
                                                              try clear c1
                                                              try clear c2
                                                              try clear p2
                                                              try clear q2
                                                              try clear hx2
                                                              try clear c4
                                                              try clear c5
                                                              try clear c6
                                                              try clear p6
                                                              try clear c7
                                                              try clear c8
                                                              try clear c9
                                                              try clear c18
                                                              try clear c22
                                                              try clear c22b0
                                                              try clear c22b1
                                                              try clear c23
                                                              try clear c23b0
                                                              try clear c23b1
                                                              try clear c25
                                                              try clear c26
                                                              try clear c26b0
                                                              try clear c26b1
                                                              try clear p26
                                                              try clear q26
                                                              try clear hx26
                                                              try clear c27
                                                              try clear c27b0
                                                              try clear c27b1
                                                              try clear p27
                                                              try clear q27
                                                              try clear hx27
                                                              try clear c28
                                                              try clear c28b0
                                                              try clear c28b1
                                                              try clear c41
                                                              try clear c42
                                                              try clear c44
                                                              try clear c45
                                                              try clear c45b0
                                                              try clear c46
                                                              try clear c46b0
                                                              try clear c47
                                                              try clear c47b0
                                                              try clear c49
                                                              try clear c49b0
                                                              try clear c51
                                                              try clear c51b0
                                                              try clear c53
                                                              try clear c53b0
                                                              try clear c55
                                                              try clear c55b0
                                                              try clear c56
                                                              try clear c56b0
                                                              try clear c57
                                                              try clear c57b0
                                                              try clear c58
                                                              try clear c58b0
                                                              try clear c60
                                                              try clear p64
                                                              try clear c70
                                                              try clear c70b0
                                                              try clear c70b1
                                                              try clear c71
                                                              try clear c71b0
                                                              try clear c72
                                                              try clear c72b0
                                                              try clear c74
                                                              try clear c77
                                                              try clear c77b0
                                                              try clear c78
                                                              try clear c78b0
                                                              try clear c80
                                                              try clear c88
                                                              try clear c88b0
                                                              try clear c88b1
                                                              try clear c90
                                                              try clear c91
                                                              try clear c91b0
                                                              try clear hx265_0
                                                              try clear hx265_1
                                                              try clear hx266_0
                                                              try clear hx266_1
                                                              try clear hx267_0
                                                              try clear hx268_0
                                                              try clear hx275_0
                                                              try clear hx279_0
                                                              try clear p2
                                                              try clear p26
                                                              try clear p265
                                                              try clear p266
                                                              try clear p267
                                                              try clear p268
                                                              try clear p27
                                                              try clear p275
                                                              try clear p279
                                                              try clear p6
                                                              try clear p64
                                                              try clear q2
                                                              try clear q26
                                                              try clear q265
                                                              try clear q266
                                                              try clear q267
                                                              try clear q268
                                                              try clear q27
                                                              try clear q275
                                                              try clear q279
                                                              obtain ⟨x25_8, rfl, HA, HK8, HO_13, HO_23, HB⟩ := hrel
                                                              cases gk with
                                                              | zero => exact absurd HA.out (by simp [laws_FnOctals.l3])
                                                              | succ k8 =>
                                                                have H := HA.out
                                                                clear HA
                                                                simp only [laws_FnOctals.l3] at H
                                                                by_cases c92 : x25_8 < (t284.length : Int)
                                                                · rw [if_pos c92] at H
                                                                  have c92b0 : decide (x25_8 < (t284.length : Int)) = true := decide_eq_true c92
                                                                  clear c92
                                                                  by_cases c93 : 0 ≤ x25_8
                                                                  · rw [if_pos c93] at H
                                                                    have c93b0 : decide (0 ≤ x25_8) = true := decide_eq_true c93
                                                                    clear c93
                                                                    by_cases c94 : 0 ≤ x26_7
                                                                    · rw [if_pos c94] at H
                                                                      have c94b0 : decide (0 ≤ x26_7) = true := decide_eq_true c94
                                                                      clear c94
                                                                      by_cases c95 : x26_7 < (t256.length : Int)
                                                                      · rw [if_pos c95] at H
                                                                        have c95b0 : decide (x26_7 < (t256.length : Int)) = true := decide_eq_true c95
                                                                        clear c95
                                                                        by_cases c96 : (!(((rd_T46 t284 x25_8).f0) == ((rd_T46 t256 x26_7).f0)) || (!(((rd_T46 t284 x25_8).f1) == ((rd_T46 t256 x26_7).f1)))) = true
                                                                        · rw [if_pos c96] at H
                                                                          have c96b0 : (!(((rd_T46 t284 x25_8).f0) == ((rd_T46 t256 x26_7).f0)) || (!(((rd_T46 t284 x25_8).f1) == ((rd_T46 t256 x26_7).f1)))) = true := c96
                                                                          clear c96
                                                                          have H' := Aside0.mk H
                                                                          clear H
                                                                          try go_wp2
                                                                          have n0_ := Aside0.mk (Kd.R_drew HO_13.out)
                                                                          have n1_ := Aside0.mk (Kd.R_drew HO_23.out)
                                                                          have n2_ := Aside0.mk (below_drew1 HB.out)
                                                                          clear HO_13
                                                                          clear HO_23
                                                                          clear HB
                                                                          have HO_13 := n0_
                                                                          have HO_23 := n1_
                                                                          have HB := n2_
                                                                          clear n0_ n1_ n2_
                                                                          obtain ⟨Ao98, co98, eo98⟩ := Kd.R_slice HO_23.out
                                                                          (first | subst eo98 | (injection eo98 with f1_ f2_ f3_; have f4_ := f1_.symm; have f5_ := f3_.symm; clear f1_ f2_ f3_; subst f4_; subst f5_))
                                                                          have p288 : 0 ≤ (x25_8 : Int) := of_decide_eq_true (by first | (with_reducible assumption) | assumption)
                                                                          have q288 : x25_8 < (t284.length : Int) := of_decide_eq_true (by first | (with_reducible assumption) | assumption)
                                                                          obtain ⟨ad288, e288, hx288_0, hx288_1⟩ := at_T46 (Kd.R_reads' HO_23.out).2.2 x25_8 p288 q288
                                                                          cases e288
                                                                          replace p288 := eq_true p288
                                                                          replace q288 := eq_true q288
                                                                          have p289 : 0 ≤ (x26_7 : Int) := of_decide_eq_true (by first | (with_reducible assumption) | assumption)
                                                                          have q289 : x26_7 < (t256.length : Int) := of_decide_eq_true (by first | (with_reducible assumption) | assumption)
                                                                          obtain ⟨ad289, e289, hx289_0, hx289_1⟩ := at_T46 (Kd.R_reads' HO_13.out).2.2 x26_7 p289 q289
                                                                          cases e289
                                                                          replace p289 := eq_true p289
                                                                          replace q289 := eq_true q289
                                                                          refine start_ (n := 15) (S := fun w' => w'.cell? (ad288.add ((x25_8).toNat * 2)) = some (.int .i64 ((rd_T46 t284 x25_8).f0)) ∧ w'.cell? ⟨(ad288.add ((x25_8).toNat * 2)).block, (ad288.add ((x25_8).toNat * 2)).off + 1, none⟩ = some (.int .i64 ((rd_T46 t284 x25_8).f1)) ∧ w'.cell? (ad289.add ((x26_7).toNat * 2)) = some (.int .i64 ((rd_T46 t256 x26_7).f0)) ∧ w'.cell? ⟨(ad289.add ((x26_7).toNat * 2)).block, (ad289.add ((x26_7).toNat * 2)).off + 1, none⟩ = some (.int .i64 ((rd_T46 t256 x26_7).f1))) (ds := []) #[false, false, false, false, false, false, false, false, false, false, false, false, false, false, false] (by kernel_rfl) rfl rfl ⟨hx288_0, hx288_1, hx289_0, hx289_1⟩ (fun hHeld => ?_); refine with_tabW laws_FnOctals.tab35 laws_FnOctals.bits35 (fun HT_ HW_ => ?_)
                                                                          generalize wr.drew = w97 at HO_13 HO_23 HB hx288_0 hx288_1 hx289_0 hx289_1 hHeld ⊢
                                                                          refine pure_ (i := 0) (N := some 204) (v := ?_) (a' := ?_) #[true, false, false, false, false, false, false, false, false, false, false, false, false, false, false] rfl rfl (any_of HT_.out (by kernel_rfl)) (fun _ _ _ h => h) (Or.inl ⟨by rfl, ?_⟩) ?_ ?_
                                                                          rotate_left
                                                                          · intro w'
                                                                            go_simp
                                                                            with_reducible rfl
                                                                          rotate_left
                                                                          · simp only [Act.put, List.setIfInBounds_toArray, List.set_cons_zero, List.set_cons_succ, i64_w, i32_w]
                                                                            rfl
                                                                          refine pure_ (i := 1) (N := some 205) (v := ?_) (a' := ?_) #[true, true, false, false, false, false, false, false, false, false, false, false, false, false, false] rfl rfl (any_of HT_.out (by kernel_rfl)) (fun _ _ _ h => h) (Or.inl ⟨by rfl, ?_⟩) ?_ ?_
                                                                          rotate_left
                                                                          · intro w'
                                                                            go_simp
                                                                            with_reducible rfl
                                                                          rotate_left
                                                                          · simp only [Act.put, List.setIfInBounds_toArray, List.set_cons_zero, List.set_cons_succ, i64_w, i32_w]
                                                                            rfl
                                                                          refine pure_ (i := 2) (N := some 206) (v := ?_) (a' := ?_) #[true, true, true, false, false, false, false, false, false, false, false, false, false, false, false] rfl rfl (any_of HT_.out (by kernel_rfl)) (fun _ _ _ h => h) (Or.inl ⟨by rfl, ?_⟩) ?_ ?_
                                                                          rotate_left
                                                                          · intro w'
                                                                            go_simp
                                                                            with_reducible rfl
                                                                          rotate_left
                                                                          · simp only [Act.put, List.setIfInBounds_toArray, List.set_cons_zero, List.set_cons_succ, i64_w, i32_w]
                                                                            rfl
                                                                          refine pure_ (i := 3) (N := some 207) (v := ?_) (a' := ?_) #[true, true, true, true, false, false, false, false, false, false, false, false, false, false, false] rfl rfl (any_of HT_.out (by kernel_rfl)) (fun _ _ _ h => h) (Or.inl ⟨by rfl, ?_⟩) ?_ ?_
                                                                          rotate_left
                                                                          · intro w'
                                                                            go_simp
                                                                            with_reducible rfl
                                                                          rotate_left
                                                                          · simp only [Act.put, List.setIfInBounds_toArray, List.set_cons_zero, List.set_cons_succ, i64_w, i32_w]
                                                                            rfl
                                                                          refine pure_ (i := 4) (N := some 208) (v := ?_) (a' := ?_) #[true, true, true, true, true, false, false, false, false, false, false, false, false, false, false] rfl rfl (any_of HT_.out (by kernel_rfl)) (fun _ _ _ h => h) (Or.inl ⟨by rfl, ?_⟩) ?_ ?_
                                                                          rotate_left
                                                                          · intro w'
                                                                            go_simp
                                                                            with_reducible rfl
                                                                          rotate_left
                                                                          · simp only [Act.put, List.setIfInBounds_toArray, List.set_cons_zero, List.set_cons_succ, i64_w, i32_w]
                                                                            rfl
                                                                          refine pure_ (i := 5) (N := some 209) (v := ?_) (a' := ?_) #[true, true, true, true, true, true, false, false, false, false, false, false, false, false, false] rfl rfl (any_of HT_.out (by kernel_rfl)) (fun _ _ _ h => h) (Or.inl ⟨by rfl, ?_⟩) ?_ ?_
                                                                          rotate_left
                                                                          · intro w'
                                                                            go_simp
                                                                            with_reducible rfl
                                                                          rotate_left
                                                                          · simp only [Act.put, List.setIfInBounds_toArray, List.set_cons_zero, List.set_cons_succ, i64_w, i32_w]
                                                                            rfl
                                                                          refine pure_ (i := 6) (N := some 210) (v := ?_) (a' := ?_) #[true, true, true, true, true, true, true, false, false, false, false, false, false, false, false] rfl rfl (any_of HT_.out (by kernel_rfl)) (fun _ _ _ h => h) (Or.inl ⟨by rfl, ?_⟩) ?_ ?_
                                                                          rotate_left
                                                                          · intro w'
                                                                            go_simp
                                                                            with_reducible rfl
                                                                          rotate_left
                                                                          · simp only [Act.put, List.setIfInBounds_toArray, List.set_cons_zero, List.set_cons_succ, i64_w, i32_w]
                                                                            rfl
                                                                          refine pure_ (i := 7) (N := some 211) (v := ?_) (a' := ?_) #[true, true, true, true, true, true, true, true, false, false, false, false, false, false, false] rfl rfl (any_of HT_.out (by kernel_rfl)) (fun _ _ _ h => h) (Or.inl ⟨by rfl, ?_⟩) ?_ ?_
                                                                          rotate_left
                                                                          · intro w'
                                                                            go_simp
                                                                            with_reducible rfl
                                                                          rotate_left
                                                                          · simp only [Act.put, List.setIfInBounds_toArray, List.set_cons_zero, List.set_cons_succ, i64_w, i32_w]
                                                                            rfl
                                                                          refine pure_ (i := 9) (N := some 213) (v := ?_) (a' := ?_) #[true, true, true, true, true, true, true, true, false, true, false, false, false, false, false] rfl rfl (any_of HT_.out (by kernel_rfl)) (fun _ _ _ h => h) (Or.inl ⟨by rfl, ?_⟩) ?_ ?_
                                                                          rotate_left
                                                                          · intro w'
                                                                            go_simp
                                                                            with_reducible rfl
                                                                          rotate_left
                                                                          · simp only [Act.put, List.setIfInBounds_toArray, List.set_cons_zero, List.set_cons_succ, i64_w, i32_w]
                                                                            rfl
                                                                          refine pure_ (i := 10) (N := some 214) (v := ?_) (a' := ?_) #[true, true, true, true, true, true, true, true, false, true, true, false, false, false, false] rfl rfl (any_of HT_.out (by kernel_rfl)) (fun _ _ _ h => h) (Or.inl ⟨by rfl, ?_⟩) ?_ ?_
                                                                          rotate_left
                                                                          · intro w'
                                                                            go_simp
                                                                            with_reducible rfl
                                                                          rotate_left
                                                                          · simp only [Act.put, List.setIfInBounds_toArray, List.set_cons_zero, List.set_cons_succ, i64_w, i32_w]
                                                                            rfl
                                                                          refine pure_ (i := 11) (N := some 215) (v := ?_) (a' := ?_) #[true, true, true, true, true, true, true, true, false, true, true, true, false, false, false] rfl rfl (any_of HT_.out (by kernel_rfl)) (fun _ _ _ h => h) (Or.inl ⟨by rfl, ?_⟩) ?_ ?_
                                                                          rotate_left
                                                                          · intro w'
                                                                            go_simp
                                                                            with_reducible rfl
                                                                          rotate_left
                                                                          · simp only [Act.put, List.setIfInBounds_toArray, List.set_cons_zero, List.set_cons_succ, i64_w, i32_w]
                                                                            rfl
                                                                          refine take_ (i := 8) (N := some 212) (v := ?_) (a' := ?_) #[true, true, true, true, true, true, true, true, true, true, true, true, false, false, false] rfl rfl (take_ofW HT_.out HW_.out (by kernel_rfl)) (fun _ _ _ h => h) (Or.inl ⟨by rfl, ?_⟩) hHeld ?_ ?_
                                                                          rotate_left
                                                                          · rintro w' ⟨s0, s1, s2, s3⟩
                                                                            go_simp
                                                                            with_reducible rfl
                                                                          rotate_left
                                                                          · simp only [Act.put, List.setIfInBounds_toArray, List.set_cons_zero, List.set_cons_succ, i64_w, i32_w]
                                                                            rfl
                                                                          refine take_ (i := 12) (N := some 216) (v := ?_) (a' := ?_) #[true, true, true, true, true, true, true, true, true, true, true, true, true, false, false] rfl rfl (take_ofW HT_.out HW_.out (by kernel_rfl)) (fun _ _ _ h => h) (Or.inl ⟨by rfl, ?_⟩) hHeld ?_ ?_
                                                                          rotate_left
                                                                          · rintro w' ⟨s0, s1, s2, s3⟩
                                                                            go_simp
                                                                            with_reducible rfl
                                                                          rotate_left
                                                                          · simp only [Act.put, List.setIfInBounds_toArray, List.set_cons_zero, List.set_cons_succ, i64_w, i32_w]
                                                                            rfl
                                                                          refine pure_ (i := 13) (N := some 217) (v := ?_) (a' := ?_) #[true, true, true, true, true, true, true, true, true, true, true, true, true, true, false] rfl rfl (any_of HT_.out (by kernel_rfl)) (fun _ _ _ h => h) (Or.inl ⟨by rfl, ?_⟩) ?_ ?_
                                                                          rotate_left
                                                                          · intro w'
                                                                            go_simp
                                                                            with_reducible rfl
                                                                          rotate_left
                                                                          · simp only [Act.put, List.setIfInBounds_toArray, List.set_cons_zero, List.set_cons_succ, i64_w, i32_w]
                                                                            rfl
                                                                          refine pure_ (i := 14) (N := some 218) (v := ?_) (a' := ?_) #[true, true, true, true, true, true, true, true, true, true, true, true, true, true, true] rfl rfl (any_of HT_.out (by kernel_rfl)) (fun _ _ _ h => h) (Or.inl ⟨by rfl, ?_⟩) ?_ ?_
                                                                          rotate_left
                                                                          · intro w'
                                                                            go_simp
                                                                            with_reducible rfl
                                                                          rotate_left
                                                                          · simp only [Act.put, List.setIfInBounds_toArray, List.set_cons_zero, List.set_cons_succ, i64_w, i32_w]
                                                                            rfl
                                                                          refine done_ (done_of HT_.out (by kernel_rfl)) ?_
                                                                          try go_wp2
                                                                          go_roundg k8
                                                                          case measure => have := HJ2.out; have := HJ13.out; have := HK3.out; have := HJ65.out; have := HK5.out; have := HJ84.out; have := HK7.out; have := HK8.out; omega
                                                                          case rel => exact ⟨(wrap64 (x25_8 + 1)), (by first | rfl | (simp; done) | (simp [*]; done)), H', ⟨by have := HJ2.out; have := HJ13.out; have := HK3.out; have := HJ65.out; have := HK5.out; have := HJ84.out; have := HK7.out; have := HK8.out; omega⟩, ⟨by (with_reducible repeat (first | apply Kd.R_alloc | apply Kd.R_drewN | apply Kd.R_drew)); exact HO_13.out⟩, ⟨by (with_reducible repeat (first | apply Kd.R_alloc | apply Kd.R_drewN | apply Kd.R_drew)); exact HO_23.out⟩, ⟨by repeat (first | (with_reducible first | exact HB.out | apply below_alloc | apply pw_below_drewN | apply below_drew1) | exact HB.out)⟩⟩
                                                                        · rw [if_neg c96] at H
                                                                          have c96b0 : (!(((rd_T46 t284 x25_8).f0) == ((rd_T46 t256 x26_7).f0)) || (!(((rd_T46 t284 x25_8).f1) == ((rd_T46 t256 x26_7).f1)))) = false := by simpa using c96
                                                                          clear c96
                                                                          by_cases c99 : x25_8 = (t284.length : Int)
                                                                          · rw [if_pos c99] at H
                                                                            have c99b0 : (x25_8 == (t284.length : Int)) = true := beq_iff_eq.mpr c99
                                                                            have c99b1 : (x25_8 != (t284.length : Int)) = false := bne_eq_false_iff_eq.mpr c99
                                                                            clear c99
                                                                            obtain rfl := Option.some.inj H
                                                                            try go_wp2
                                                                            have n0_ := Aside0.mk (Kd.R_drew HO_13.out)
                                                                            have n1_ := Aside0.mk (Kd.R_drew HO_23.out)
                                                                            have n2_ := Aside0.mk (below_drew1 HB.out)
                                                                            clear HO_13
                                                                            clear HO_23
                                                                            clear HB
                                                                            have HO_13 := n0_
                                                                            have HO_23 := n1_
                                                                            have HB := n2_
                                                                            clear n0_ n1_ n2_
                                                                            obtain ⟨Ao101, co101, eo101⟩ := Kd.R_slice HO_23.out
                                                                            (first | subst eo101 | (injection eo101 with f1_ f2_ f3_; have f4_ := f1_.symm; have f5_ := f3_.symm; clear f1_ f2_ f3_; subst f4_; subst f5_))
                                                                            have p288 : 0 ≤ (x25_8 : Int) := of_decide_eq_true (by first | (with_reducible assumption) | assumption)
                                                                            have q288 : x25_8 < (t284.length : Int) := of_decide_eq_true (by first | (with_reducible assumption) | assumption)
                                                                            obtain ⟨ad288, e288, hx288_0, hx288_1⟩ := at_T46 (Kd.R_reads' HO_23.out).2.2 x25_8 p288 q288
                                                                            cases e288
                                                                            replace p288 := eq_true p288
                                                                            replace q288 := eq_true q288
                                                                            have p289 : 0 ≤ (x26_7 : Int) := of_decide_eq_true (by first | (with_reducible assumption) | assumption)
                                                                            have q289 : x26_7 < (t256.length : Int) := of_decide_eq_true (by first | (with_reducible assumption) | assumption)
                                                                            obtain ⟨ad289, e289, hx289_0, hx289_1⟩ := at_T46 (Kd.R_reads' HO_13.out).2.2 x26_7 p289 q289
                                                                            cases e289
                                                                            replace p289 := eq_true p289
                                                                            replace q289 := eq_true q289
                                                                            refine start_ (n := 15) (S := fun w' => w'.cell? (ad288.add ((x25_8).toNat * 2)) = some (.int .i64 ((rd_T46 t284 x25_8).f0)) ∧ w'.cell? ⟨(ad288.add ((x25_8).toNat * 2)).block, (ad288.add ((x25_8).toNat * 2)).off + 1, none⟩ = some (.int .i64 ((rd_T46 t284 x25_8).f1)) ∧ w'.cell? (ad289.add ((x26_7).toNat * 2)) = some (.int .i64 ((rd_T46 t256 x26_7).f0)) ∧ w'.cell? ⟨(ad289.add ((x26_7).toNat * 2)).block, (ad289.add ((x26_7).toNat * 2)).off + 1, none⟩ = some (.int .i64 ((rd_T46 t256 x26_7).f1))) (ds := []) #[false, false, false, false, false, false, false, false, false, false, false, false, false, false, false] (by kernel_rfl) rfl rfl ⟨hx288_0, hx288_1, hx289_0, hx289_1⟩ (fun hHeld => ?_); refine with_tabW laws_FnOctals.tab35 laws_FnOctals.bits35 (fun HT_ HW_ => ?_)
                                                                            generalize wr.drew = w100 at HO_13 HO_23 HB hx288_0 hx288_1 hx289_0 hx289_1 hHeld ⊢
                                                                            refine pure_ (i := 0) (N := some 204) (v := ?_) (a' := ?_) #[true, false, false, false, false, false, false, false, false, false, false, false, false, false, false] rfl rfl (any_of HT_.out (by kernel_rfl)) (fun _ _ _ h => h) (Or.inl ⟨by rfl, ?_⟩) ?_ ?_
                                                                            rotate_left
                                                                            · intro w'
                                                                              go_simp
                                                                              with_reducible rfl
                                                                            rotate_left
                                                                            · simp only [Act.put, List.setIfInBounds_toArray, List.set_cons_zero, List.set_cons_succ, i64_w, i32_w]
                                                                              rfl
                                                                            refine pure_ (i := 1) (N := some 205) (v := ?_) (a' := ?_) #[true, true, false, false, false, false, false, false, false, false, false, false, false, false, false] rfl rfl (any_of HT_.out (by kernel_rfl)) (fun _ _ _ h => h) (Or.inl ⟨by rfl, ?_⟩) ?_ ?_
                                                                            rotate_left
                                                                            · intro w'
                                                                              go_simp
                                                                              with_reducible rfl
                                                                            rotate_left
                                                                            · simp only [Act.put, List.setIfInBounds_toArray, List.set_cons_zero, List.set_cons_succ, i64_w, i32_w]
                                                                              rfl
                                                                            refine pure_ (i := 2) (N := some 206) (v := ?_) (a' := ?_) #[true, true, true, false, false, false, false, false, false, false, false, false, false, false, false] rfl rfl (any_of HT_.out (by kernel_rfl)) (fun _ _ _ h => h) (Or.inl ⟨by rfl, ?_⟩) ?_ ?_
                                                                            rotate_left
                                                                            · intro w'
                                                                              go_simp
                                                                              with_reducible rfl
                                                                            rotate_left
                                                                            · simp only [Act.put, List.setIfInBounds_toArray, List.set_cons_zero, List.set_cons_succ, i64_w, i32_w]
                                                                              rfl
                                                                            refine pure_ (i := 3) (N := some 207) (v := ?_) (a' := ?_) #[true, true, true, true, false, false, false, false, false, false, false, false, false, false, false] rfl rfl (any_of HT_.out (by kernel_rfl)) (fun _ _ _ h => h) (Or.inl ⟨by rfl, ?_⟩) ?_ ?_
                                                                            rotate_left
                                                                            · intro w'
                                                                              go_simp
                                                                              with_reducible rfl
                                                                            rotate_left
                                                                            · simp only [Act.put, List.setIfInBounds_toArray, List.set_cons_zero, List.set_cons_succ, i64_w, i32_w]
                                                                              rfl
                                                                            refine pure_ (i := 4) (N := some 208) (v := ?_) (a' := ?_) #[true, true, true, true, true, false, false, false, false, false, false, false, false, false, false] rfl rfl (any_of HT_.out (by kernel_rfl)) (fun _ _ _ h => h) (Or.inl ⟨by rfl, ?_⟩) ?_ ?_
                                                                            rotate_left
                                                                            · intro w'
                                                                              go_simp
                                                                              with_reducible rfl
                                                                            rotate_left
                                                                            · simp only [Act.put, List.setIfInBounds_toArray, List.set_cons_zero, List.set_cons_succ, i64_w, i32_w]
                                                                              rfl
                                                                            refine pure_ (i := 5) (N := some 209) (v := ?_) (a' := ?_) #[true, true, true, true, true, true, false, false, false, false, false, false, false, false, false] rfl rfl (any_of HT_.out (by kernel_rfl)) (fun _ _ _ h => h) (Or.inl ⟨by rfl, ?_⟩) ?_ ?_
                                                                            rotate_left
                                                                            · intro w'
                                                                              go_simp
                                                                              with_reducible rfl
                                                                            rotate_left
                                                                            · simp only [Act.put, List.setIfInBounds_toArray, List.set_cons_zero, List.set_cons_succ, i64_w, i32_w]
                                                                              rfl
                                                                            refine pure_ (i := 6) (N := some 210) (v := ?_) (a' := ?_) #[true, true, true, true, true, true, true, false, false, false, false, false, false, false, false] rfl rfl (any_of HT_.out (by kernel_rfl)) (fun _ _ _ h => h) (Or.inl ⟨by rfl, ?_⟩) ?_ ?_
                                                                            rotate_left
                                                                            · intro w'
                                                                              go_simp
                                                                              with_reducible rfl
                                                                            rotate_left
                                                                            · simp only [Act.put, List.setIfInBounds_toArray, List.set_cons_zero, List.set_cons_succ, i64_w, i32_w]
                                                                              rfl
                                                                            refine pure_ (i := 7) (N := some 211) (v := ?_) (a' := ?_) #[true, true, true, true, true, true, true, true, false, false, false, false, false, false, false] rfl rfl (any_of HT_.out (by kernel_rfl)) (fun _ _ _ h => h) (Or.inl ⟨by rfl, ?_⟩) ?_ ?_
                                                                            rotate_left
                                                                            · intro w'
                                                                              go_simp
                                                                              with_reducible rfl
                                                                            rotate_left
                                                                            · simp only [Act.put, List.setIfInBounds_toArray, List.set_cons_zero, List.set_cons_succ, i64_w, i32_w]
                                                                              rfl
                                                                            refine pure_ (i := 9) (N := some 213) (v := ?_) (a' := ?_) #[true, true, true, true, true, true, true, true, false, true, false, false, false, false, false] rfl rfl (any_of HT_.out (by kernel_rfl)) (fun _ _ _ h => h) (Or.inl ⟨by rfl, ?_⟩) ?_ ?_
                                                                            rotate_left
                                                                            · intro w'
                                                                              go_simp
                                                                              with_reducible rfl
                                                                            rotate_left
                                                                            · simp only [Act.put, List.setIfInBounds_toArray, List.set_cons_zero, List.set_cons_succ, i64_w, i32_w]
                                                                              rfl
                                                                            refine pure_ (i := 10) (N := some 214) (v := ?_) (a' := ?_) #[true, true, true, true, true, true, true, true, false, true, true, false, false, false, false] rfl rfl (any_of HT_.out (by kernel_rfl)) (fun _ _ _ h => h) (Or.inl ⟨by rfl, ?_⟩) ?_ ?_
                                                                            rotate_left
                                                                            · intro w'
                                                                              go_simp
                                                                              with_reducible rfl
                                                                            rotate_left
                                                                            · simp only [Act.put, List.setIfInBounds_toArray, List.set_cons_zero, List.set_cons_succ, i64_w, i32_w]
                                                                              rfl
                                                                            refine pure_ (i := 11) (N := some 215) (v := ?_) (a' := ?_) #[true, true, true, true, true, true, true, true, false, true, true, true, false, false, false] rfl rfl (any_of HT_.out (by kernel_rfl)) (fun _ _ _ h => h) (Or.inl ⟨by rfl, ?_⟩) ?_ ?_
                                                                            rotate_left
                                                                            · intro w'
                                                                              go_simp
                                                                              with_reducible rfl
                                                                            rotate_left
                                                                            · simp only [Act.put, List.setIfInBounds_toArray, List.set_cons_zero, List.set_cons_succ, i64_w, i32_w]
                                                                              rfl
                                                                            refine take_ (i := 8) (N := some 212) (v := ?_) (a' := ?_) #[true, true, true, true, true, true, true, true, true, true, true, true, false, false, false] rfl rfl (take_ofW HT_.out HW_.out (by kernel_rfl)) (fun _ _ _ h => h) (Or.inl ⟨by rfl, ?_⟩) hHeld ?_ ?_
                                                                            rotate_left
                                                                            · rintro w' ⟨s0, s1, s2, s3⟩
                                                                              go_simp
                                                                              with_reducible rfl
                                                                            rotate_left
                                                                            · simp only [Act.put, List.setIfInBounds_toArray, List.set_cons_zero, List.set_cons_succ, i64_w, i32_w]
                                                                              rfl
                                                                            refine take_ (i := 12) (N := some 216) (v := ?_) (a' := ?_) #[true, true, true, true, true, true, true, true, true, true, true, true, true, false, false] rfl rfl (take_ofW HT_.out HW_.out (by kernel_rfl)) (fun _ _ _ h => h) (Or.inl ⟨by rfl, ?_⟩) hHeld ?_ ?_
                                                                            rotate_left
                                                                            · rintro w' ⟨s0, s1, s2, s3⟩
                                                                              go_simp
                                                                              with_reducible rfl
                                                                            rotate_left
                                                                            · simp only [Act.put, List.setIfInBounds_toArray, List.set_cons_zero, List.set_cons_succ, i64_w, i32_w]
                                                                              rfl
                                                                            refine pure_ (i := 13) (N := some 217) (v := ?_) (a' := ?_) #[true, true, true, true, true, true, true, true, true, true, true, true, true, true, false] rfl rfl (any_of HT_.out (by kernel_rfl)) (fun _ _ _ h => h) (Or.inl ⟨by rfl, ?_⟩) ?_ ?_
                                                                            rotate_left
                                                                            · intro w'
                                                                              go_simp
                                                                              with_reducible rfl
                                                                            rotate_left
                                                                            · simp only [Act.put, List.setIfInBounds_toArray, List.set_cons_zero, List.set_cons_succ, i64_w, i32_w]
                                                                              rfl
                                                                            refine pure_ (i := 14) (N := some 218) (v := ?_) (a' := ?_) #[true, true, true, true, true, true, true, true, true, true, true, true, true, true, true] rfl rfl (any_of HT_.out (by kernel_rfl)) (fun _ _ _ h => h) (Or.inl ⟨by rfl, ?_⟩) ?_ ?_
                                                                            rotate_left
                                                                            · intro w'
                                                                              go_simp
                                                                              with_reducible rfl
                                                                            rotate_left
                                                                            · simp only [Act.put, List.setIfInBounds_toArray, List.set_cons_zero, List.set_cons_succ, i64_w, i32_w]
                                                                              rfl
                                                                            refine done_ (done_of HT_.out (by kernel_rfl)) ?_
                                                                            try go_wp2
                                                                            go_ret
                                                                            exact ⟨by first | rfl | (simp [errW_none, errW_some] <;> rfl) | (simp [*, errW_none, errW_some] <;> rfl), by repeat (first | (with_reducible first | exact HB.out | apply below_alloc | apply pw_below_drewN | apply below_drew1) | exact HB.out)⟩
                                                                          · rw [if_neg c99] at H
                                                                            have c99b0 : (x25_8 == (t284.length : Int)) = false := beq_eq_false_iff_ne.mpr c99
                                                                            have c99b1 : (x25_8 != (t284.length : Int)) = true := bne_iff_ne.mpr c99
                                                                            have H' := Aside0.mk H
                                                                            clear H
                                                                            try go_wp2
                                                                            have n0_ := Aside0.mk (Kd.R_drew HO_13.out)
                                                                            have n1_ := Aside0.mk (Kd.R_drew HO_23.out)
                                                                            have n2_ := Aside0.mk (below_drew1 HB.out)
                                                                            clear HO_13
                                                                            clear HO_23
                                                                            clear HB
                                                                            have HO_13 := n0_
                                                                            have HO_23 := n1_
                                                                            have HB := n2_
                                                                            clear n0_ n1_ n2_
                                                                            obtain ⟨Ao103, co103, eo103⟩ := Kd.R_slice HO_23.out
                                                                            (first | subst eo103 | (injection eo103 with f1_ f2_ f3_; have f4_ := f1_.symm; have f5_ := f3_.symm; clear f1_ f2_ f3_; subst f4_; subst f5_))
                                                                            have p288 : 0 ≤ (x25_8 : Int) := of_decide_eq_true (by first | (with_reducible assumption) | assumption)
                                                                            have q288 : x25_8 < (t284.length : Int) := of_decide_eq_true (by first | (with_reducible assumption) | assumption)
                                                                            obtain ⟨ad288, e288, hx288_0, hx288_1⟩ := at_T46 (Kd.R_reads' HO_23.out).2.2 x25_8 p288 q288
                                                                            cases e288
                                                                            replace p288 := eq_true p288
                                                                            replace q288 := eq_true q288
                                                                            have p289 : 0 ≤ (x26_7 : Int) := of_decide_eq_true (by first | (with_reducible assumption) | assumption)
                                                                            have q289 : x26_7 < (t256.length : Int) := of_decide_eq_true (by first | (with_reducible assumption) | assumption)
                                                                            obtain ⟨ad289, e289, hx289_0, hx289_1⟩ := at_T46 (Kd.R_reads' HO_13.out).2.2 x26_7 p289 q289
                                                                            cases e289
                                                                            replace p289 := eq_true p289
                                                                            replace q289 := eq_true q289
                                                                            refine start_ (n := 15) (S := fun w' => w'.cell? (ad288.add ((x25_8).toNat * 2)) = some (.int .i64 ((rd_T46 t284 x25_8).f0)) ∧ w'.cell? ⟨(ad288.add ((x25_8).toNat * 2)).block, (ad288.add ((x25_8).toNat * 2)).off + 1, none⟩ = some (.int .i64 ((rd_T46 t284 x25_8).f1)) ∧ w'.cell? (ad289.add ((x26_7).toNat * 2)) = some (.int .i64 ((rd_T46 t256 x26_7).f0)) ∧ w'.cell? ⟨(ad289.add ((x26_7).toNat * 2)).block, (ad289.add ((x26_7).toNat * 2)).off + 1, none⟩ = some (.int .i64 ((rd_T46 t256 x26_7).f1))) (ds := []) #[false, false, false, false, false, false, false, false, false, false, false, false, false, false, false] (by kernel_rfl) rfl rfl ⟨hx288_0, hx288_1, hx289_0, hx289_1⟩ (fun hHeld => ?_); refine with_tabW laws_FnOctals.tab35 laws_FnOctals.bits35 (fun HT_ HW_ => ?_)
                                                                            generalize wr.drew = w102 at HO_13 HO_23 HB hx288_0 hx288_1 hx289_0 hx289_1 hHeld ⊢
                                                                            refine pure_ (i := 0) (N := some 204) (v := ?_) (a' := ?_) #[true, false, false, false, false, false, false, false, false, false, false, false, false, false, false] rfl rfl (any_of HT_.out (by kernel_rfl)) (fun _ _ _ h => h) (Or.inl ⟨by rfl, ?_⟩) ?_ ?_
                                                                            rotate_left
                                                                            · intro w'
                                                                              go_simp
                                                                              with_reducible rfl
                                                                            rotate_left
                                                                            · simp only [Act.put, List.setIfInBounds_toArray, List.set_cons_zero, List.set_cons_succ, i64_w, i32_w]
                                                                              rfl
                                                                            refine pure_ (i := 1) (N := some 205) (v := ?_) (a' := ?_) #[true, true, false, false, false, false, false, false, false, false, false, false, false, false, false] rfl rfl (any_of HT_.out (by kernel_rfl)) (fun _ _ _ h => h) (Or.inl ⟨by rfl, ?_⟩) ?_ ?_
                                                                            rotate_left
                                                                            · intro w'
                                                                              go_simp
                                                                              with_reducible rfl
                                                                            rotate_left
                                                                            · simp only [Act.put, List.setIfInBounds_toArray, List.set_cons_zero, List.set_cons_succ, i64_w, i32_w]
                                                                              rfl
                                                                            refine pure_ (i := 2) (N := some 206) (v := ?_) (a' := ?_) #[true, true, true, false, false, false, false, false, false, false, false, false, false, false, false] rfl rfl (any_of HT_.out (by kernel_rfl)) (fun _ _ _ h => h) (Or.inl ⟨by rfl, ?_⟩) ?_ ?_
                                                                            rotate_left
                                                                            · intro w'
                                                                              go_simp
                                                                              with_reducible rfl
                                                                            rotate_left
                                                                            · simp only [Act.put, List.setIfInBounds_toArray, List.set_cons_zero, List.set_cons_succ, i64_w, i32_w]
                                                                              rfl
                                                                            refine pure_ (i := 3) (N := some 207) (v := ?_) (a' := ?_) #[true, true, true, true, false, false, false, false, false, false, false, false, false, false, false] rfl rfl (any_of HT_.out (by kernel_rfl)) (fun _ _ _ h => h) (Or.inl ⟨by rfl, ?_⟩) ?_ ?_
                                                                            rotate_left
                                                                            · intro w'
                                                                              go_simp
                                                                              with_reducible rfl
                                                                            rotate_left
                                                                            · simp only [Act.put, List.setIfInBounds_toArray, List.set_cons_zero, List.set_cons_succ, i64_w, i32_w]
                                                                              rfl
                                                                            refine pure_ (i := 4) (N := some 208) (v := ?_) (a' := ?_) #[true, true, true, true, true, false, false, false, false, false, false, false, false, false, false] rfl rfl (any_of HT_.out (by kernel_rfl)) (fun _ _ _ h => h) (Or.inl ⟨by rfl, ?_⟩) ?_ ?_
                                                                            rotate_left
                                                                            · intro w'
                                                                              go_simp
                                                                              with_reducible rfl
                                                                            rotate_left
                                                                            · simp only [Act.put, List.setIfInBounds_toArray, List.set_cons_zero, List.set_cons_succ, i64_w, i32_w]
                                                                              rfl
                                                                            refine pure_ (i := 5) (N := some 209) (v := ?_) (a' := ?_) #[true, true, true, true, true, true, false, false, false, false, false, false, false, false, false] rfl rfl (any_of HT_.out (by kernel_rfl)) (fun _ _ _ h => h) (Or.inl ⟨by rfl, ?_⟩) ?_ ?_
                                                                            rotate_left
                                                                            · intro w'
                                                                              go_simp
                                                                              with_reducible rfl
                                                                            rotate_left
                                                                            · simp only [Act.put, List.setIfInBounds_toArray, List.set_cons_zero, List.set_cons_succ, i64_w, i32_w]
                                                                              rfl
                                                                            refine pure_ (i := 6) (N := some 210) (v := ?_) (a' := ?_) #[true, true, true, true, true, true, true, false, false, false, false, false, false, false, false] rfl rfl (any_of HT_.out (by kernel_rfl)) (fun _ _ _ h => h) (Or.inl ⟨by rfl, ?_⟩) ?_ ?_
                                                                            rotate_left
                                                                            · intro w'
                                                                              go_simp
                                                                              with_reducible rfl
                                                                            rotate_left
                                                                            · simp only [Act.put, List.setIfInBounds_toArray, List.set_cons_zero, List.set_cons_succ, i64_w, i32_w]
                                                                              rfl
                                                                            refine pure_ (i := 7) (N := some 211) (v := ?_) (a' := ?_) #[true, true, true, true, true, true, true, true, false, false, false, false, false, false, false] rfl rfl (any_of HT_.out (by kernel_rfl)) (fun _ _ _ h => h) (Or.inl ⟨by rfl, ?_⟩) ?_ ?_
                                                                            rotate_left
                                                                            · intro w'
                                                                              go_simp
                                                                              with_reducible rfl
                                                                            rotate_left
                                                                            · simp only [Act.put, List.setIfInBounds_toArray, List.set_cons_zero, List.set_cons_succ, i64_w, i32_w]
                                                                              rfl
                                                                            refine pure_ (i := 9) (N := some 213) (v := ?_) (a' := ?_) #[true, true, true, true, true, true, true, true, false, true, false, false, false, false, false] rfl rfl (any_of HT_.out (by kernel_rfl)) (fun _ _ _ h => h) (Or.inl ⟨by rfl, ?_⟩) ?_ ?_
                                                                            rotate_left
                                                                            · intro w'
                                                                              go_simp
                                                                              with_reducible rfl
                                                                            rotate_left
                                                                            · simp only [Act.put, List.setIfInBounds_toArray, List.set_cons_zero, List.set_cons_succ, i64_w, i32_w]
                                                                              rfl
                                                                            refine pure_ (i := 10) (N := some 214) (v := ?_) (a' := ?_) #[true, true, true, true, true, true, true, true, false, true, true, false, false, false, false] rfl rfl (any_of HT_.out (by kernel_rfl)) (fun _ _ _ h => h) (Or.inl ⟨by rfl, ?_⟩) ?_ ?_
                                                                            rotate_left
                                                                            · intro w'
                                                                              go_simp
                                                                              with_reducible rfl
                                                                            rotate_left
                                                                            · simp only [Act.put, List.setIfInBounds_toArray, List.set_cons_zero, List.set_cons_succ, i64_w, i32_w]
                                                                              rfl
                                                                            refine pure_ (i := 11) (N := some 215) (v := ?_) (a' := ?_) #[true, true, true, true, true, true, true, true, false, true, true, true, false, false, false] rfl rfl (any_of HT_.out (by kernel_rfl)) (fun _ _ _ h => h) (Or.inl ⟨by rfl, ?_⟩) ?_ ?_
                                                                            rotate_left
                                                                            · intro w'
                                                                              go_simp
                                                                              with_reducible rfl
                                                                            rotate_left
                                                                            · simp only [Act.put, List.setIfInBounds_toArray, List.set_cons_zero, List.set_cons_succ, i64_w, i32_w]
                                                                              rfl
                                                                            refine take_ (i := 8) (N := some 212) (v := ?_) (a' := ?_) #[true, true, true, true, true, true, true, true, true, true, true, true, false, false, false] rfl rfl (take_ofW HT_.out HW_.out (by kernel_rfl)) (fun _ _ _ h => h) (Or.inl ⟨by rfl, ?_⟩) hHeld ?_ ?_
                                                                            rotate_left
                                                                            · rintro w' ⟨s0, s1, s2, s3⟩
                                                                              go_simp
                                                                              with_reducible rfl
                                                                            rotate_left
                                                                            · simp only [Act.put, List.setIfInBounds_toArray, List.set_cons_zero, List.set_cons_succ, i64_w, i32_w]
                                                                              rfl
                                                                            refine take_ (i := 12) (N := some 216) (v := ?_) (a' := ?_) #[true, true, true, true, true, true, true, true, true, true, true, true, true, false, false] rfl rfl (take_ofW HT_.out HW_.out (by kernel_rfl)) (fun _ _ _ h => h) (Or.inl ⟨by rfl, ?_⟩) hHeld ?_ ?_
                                                                            rotate_left
                                                                            · rintro w' ⟨s0, s1, s2, s3⟩
                                                                              go_simp
                                                                              with_reducible rfl
                                                                            rotate_left
                                                                            · simp only [Act.put, List.setIfInBounds_toArray, List.set_cons_zero, List.set_cons_succ, i64_w, i32_w]
                                                                              rfl
                                                                            refine pure_ (i := 13) (N := some 217) (v := ?_) (a' := ?_) #[true, true, true, true, true, true, true, true, true, true, true, true, true, true, false] rfl rfl (any_of HT_.out (by kernel_rfl)) (fun _ _ _ h => h) (Or.inl ⟨by rfl, ?_⟩) ?_ ?_
                                                                            rotate_left
                                                                            · intro w'
                                                                              go_simp
                                                                              with_reducible rfl
                                                                            rotate_left
                                                                            · simp only [Act.put, List.setIfInBounds_toArray, List.set_cons_zero, List.set_cons_succ, i64_w, i32_w]
                                                                              rfl
                                                                            refine pure_ (i := 14) (N := some 218) (v := ?_) (a' := ?_) #[true, true, true, true, true, true, true, true, true, true, true, true, true, true, true] rfl rfl (any_of HT_.out (by kernel_rfl)) (fun _ _ _ h => h) (Or.inl ⟨by rfl, ?_⟩) ?_ ?_
                                                                            rotate_left
                                                                            · intro w'
                                                                              go_simp
                                                                              with_reducible rfl
                                                                            rotate_left
                                                                            · simp only [Act.put, List.setIfInBounds_toArray, List.set_cons_zero, List.set_cons_succ, i64_w, i32_w]
                                                                              rfl
                                                                            refine done_ (done_of HT_.out (by kernel_rfl)) ?_
                                                                            try go_wp2
                                                                            go_roundg k8
                                                                            case measure => have := HJ2.out; have := HJ13.out; have := HK3.out; have := HJ65.out; have := HK5.out; have := HJ84.out; have := HK7.out; have := HK8.out; omega
                                                                            case rel => exact ⟨(x25_8), (wrap64 (x26_7 + 1)), (by first | rfl | (simp; done) | (simp [*]; done)), (by first | rfl | (simp; done) | (simp [*]; done)), H', ⟨by have := HJ2.out; have := HJ13.out; have := HK3.out; have := HJ65.out; have := HK5.out; have := HJ84.out; have := HK7.out; have := HK8.out; omega⟩, ⟨by (with_reducible repeat (first | apply Kd.R_alloc | apply Kd.R_drewN | apply Kd.R_drew)); exact HO_13.out⟩, ⟨by (with_reducible repeat (first | apply Kd.R_alloc | apply Kd.R_drewN | apply Kd.R_drew)); exact HO_23.out⟩, ⟨by repeat (first | (with_reducible first | exact HB.out | apply below_alloc | apply pw_below_drewN | apply below_drew1) | exact HB.out)⟩⟩
                                                                      · rw [if_neg c95] at H
                                                                        exact absurd H (by simp)
                                                                    · rw [if_neg c94] at H
                                                                      exact absurd H (by simp)
                                                                  · rw [if_neg c93] at H
                                                                    exact absurd H (by simp)
                                                                · rw [if_neg c92] at H
                                                                  have c92b0 : decide (x25_8 < (t284.length : Int)) = false := decide_eq_false c92
                                                                  clear c92
                                                                  by_cases c104 : x25_8 = (t284.length : Int)
                                                                  · rw [if_pos c104] at H
                                                                    have c104b0 : (x25_8 == (t284.length : Int)) = true := beq_iff_eq.mpr c104
                                                                    have c104b1 : (x25_8 != (t284.length : Int)) = false := bne_eq_false_iff_eq.mpr c104
                                                                    clear c104
                                                                    obtain rfl := Option.some.inj H
                                                                    try go_wp2
                                                                    have n0_ := Aside0.mk (Kd.R_drew HO_13.out)
                                                                    have n1_ := Aside0.mk (Kd.R_drew HO_23.out)
                                                                    have n2_ := Aside0.mk (below_drew1 HB.out)
                                                                    clear HO_13
                                                                    clear HO_23
                                                                    clear HB
                                                                    have HO_13 := n0_
                                                                    have HO_23 := n1_
                                                                    have HB := n2_
                                                                    clear n0_ n1_ n2_
                                                                    obtain ⟨Ao106, co106, eo106⟩ := Kd.R_slice HO_23.out
                                                                    (first | subst eo106 | (injection eo106 with f1_ f2_ f3_; have f4_ := f1_.symm; have f5_ := f3_.symm; clear f1_ f2_ f3_; subst f4_; subst f5_))
                                                                    refine start_ (n := 15) (S := fun w' => True) (ds := []) #[false, false, false, false, false, false, false, false, false, false, false, false, false, false, false] (by kernel_rfl) rfl rfl trivial (fun hHeld => ?_); refine with_tabW laws_FnOctals.tab35 laws_FnOctals.bits35 (fun HT_ HW_ => ?_)
                                                                    generalize wr.drew = w105 at HO_13 HO_23 HB hHeld ⊢
                                                                    refine pure_ (i := 0) (N := some 204) (v := ?_) (a' := ?_) #[true, false, false, false, false, false, false, false, false, false, false, false, false, false, false] rfl rfl (any_of HT_.out (by kernel_rfl)) (fun _ _ _ h => h) (Or.inl ⟨by rfl, ?_⟩) ?_ ?_
                                                                    rotate_left
                                                                    · intro w'
                                                                      go_simp
                                                                      with_reducible rfl
                                                                    rotate_left
                                                                    · simp only [Act.put, List.setIfInBounds_toArray, List.set_cons_zero, List.set_cons_succ, i64_w, i32_w]
                                                                      rfl
                                                                    refine pure_ (i := 1) (N := some 205) (v := ?_) (a' := ?_) #[true, true, false, false, false, false, false, false, false, false, false, false, false, false, false] rfl rfl (any_of HT_.out (by kernel_rfl)) (fun _ _ _ h => h) (Or.inl ⟨by rfl, ?_⟩) ?_ ?_
                                                                    rotate_left
                                                                    · intro w'
                                                                      go_simp
                                                                      with_reducible rfl
                                                                    rotate_left
                                                                    · simp only [Act.put, List.setIfInBounds_toArray, List.set_cons_zero, List.set_cons_succ, i64_w, i32_w]
                                                                      rfl
                                                                    refine pure_ (i := 2) (N := some 206) (v := ?_) (a' := ?_) #[true, true, true, false, false, false, false, false, false, false, false, false, false, false, false] rfl rfl (any_of HT_.out (by kernel_rfl)) (fun _ _ _ h => h) (Or.inl ⟨by rfl, ?_⟩) ?_ ?_
                                                                    rotate_left
                                                                    · intro w'
                                                                      go_simp
                                                                      with_reducible rfl
                                                                    rotate_left
                                                                    · simp only [Act.put, List.setIfInBounds_toArray, List.set_cons_zero, List.set_cons_succ, i64_w, i32_w]
                                                                      rfl
                                                                    refine pure_ (i := 3) (N := some 207) (v := ?_) (a' := ?_) #[true, true, true, true, false, false, false, false, false, false, false, false, false, false, false] rfl rfl (any_of HT_.out (by kernel_rfl)) (fun _ _ _ h => h) (Or.inl ⟨by rfl, ?_⟩) ?_ ?_
                                                                    rotate_left
                                                                    · intro w'
                                                                      go_simp
                                                                      with_reducible rfl
                                                                    rotate_left
                                                                    · simp only [Act.put, List.setIfInBounds_toArray, List.set_cons_zero, List.set_cons_succ, i64_w, i32_w]
                                                                      rfl
                                                                    refine pure_ (i := 4) (N := some 208) (v := ?_) (a' := ?_) #[true, true, true, true, true, false, false, false, false, false, false, false, false, false, false] rfl rfl (any_of HT_.out (by kernel_rfl)) (fun _ _ _ h => h) (Or.inl ⟨by rfl, ?_⟩) ?_ ?_
                                                                    rotate_left
                                                                    · intro w'
                                                                      go_simp
                                                                      with_reducible rfl
                                                                    rotate_left
                                                                    · simp only [Act.put, List.setIfInBounds_toArray, List.set_cons_zero, List.set_cons_succ, i64_w, i32_w]
                                                                      rfl
                                                                    refine pure_ (i := 5) (N := some 209) (v := undef) (a' := ?_) #[true, true, true, true, true, true, false, false, false, false, false, false, false, false, false] rfl rfl (any_of HT_.out (by kernel_rfl)) (fun _ _ _ h => h) (Or.inr ⟨by rfl, rfl⟩) ?_ ?_
                                                                    rotate_left
                                                                    · simp only [Act.put, List.setIfInBounds_toArray, List.set_cons_zero, List.set_cons_succ, i64_w, i32_w]
                                                                      rfl
                                                                    refine pure_ (i := 6) (N := some 210) (v := undef) (a' := ?_) #[true, true, true, true, true, true, true, false, false, false, false, false, false, false, false] rfl rfl (any_of HT_.out (by kernel_rfl)) (fun _ _ _ h => h) (Or.inr ⟨by rfl, rfl⟩) ?_ ?_
                                                                    rotate_left
                                                                    · simp only [Act.put, List.setIfInBounds_toArray, List.set_cons_zero, List.set_cons_succ, i64_w, i32_w]
                                                                      rfl
                                                                    refine pure_ (i := 7) (N := some 211) (v := undef) (a' := ?_) #[true, true, true, true, true, true, true, true, false, false, false, false, false, false, false] rfl rfl (any_of HT_.out (by kernel_rfl)) (fun _ _ _ h => h) (Or.inr ⟨by rfl, rfl⟩) ?_ ?_
                                                                    rotate_left
                                                                    · simp only [Act.put, List.setIfInBounds_toArray, List.set_cons_zero, List.set_cons_succ, i64_w, i32_w]
                                                                      rfl
                                                                    refine pure_ (i := 8) (N := some 212) (v := undef) (a' := ?_) #[true, true, true, true, true, true, true, true, true, false, false, false, false, false, false] rfl rfl (any_of HT_.out (by kernel_rfl)) (fun _ _ _ h => h) (Or.inr ⟨by rfl, rfl⟩) ?_ ?_
                                                                    rotate_left
                                                                    · simp only [Act.put, List.setIfInBounds_toArray, List.set_cons_zero, List.set_cons_succ, i64_w, i32_w]
                                                                      rfl
                                                                    refine pure_ (i := 9) (N := some 213) (v := undef) (a' := ?_) #[true, true, true, true, true, true, true, true, true, true, false, false, false, false, false] rfl rfl (any_of HT_.out (by kernel_rfl)) (fun _ _ _ h => h) (Or.inr ⟨by rfl, rfl⟩) ?_ ?_
                                                                    rotate_left
                                                                    · simp only [Act.put, List.setIfInBounds_toArray, List.set_cons_zero, List.set_cons_succ, i64_w, i32_w]
                                                                      rfl
                                                                    refine pure_ (i := 10) (N := some 214) (v := undef) (a' := ?_) #[true, true, true, true, true, true, true, true, true, true, true, false, false, false, false] rfl rfl (any_of HT_.out (by kernel_rfl)) (fun _ _ _ h => h) (Or.inr ⟨by rfl, rfl⟩) ?_ ?_
                                                                    rotate_left
                                                                    · simp only [Act.put, List.setIfInBounds_toArray, List.set_cons_zero, List.set_cons_succ, i64_w, i32_w]
                                                                      rfl
                                                                    refine pure_ (i := 11) (N := some 215) (v := undef) (a' := ?_) #[true, true, true, true, true, true, true, true, true, true, true, true, false, false, false] rfl rfl (any_of HT_.out (by kernel_rfl)) (fun _ _ _ h => h) (Or.inr ⟨by rfl, rfl⟩) ?_ ?_
                                                                    rotate_left
                                                                    · simp only [Act.put, List.setIfInBounds_toArray, List.set_cons_zero, List.set_cons_succ, i64_w, i32_w]
                                                                      rfl
                                                                    refine pure_ (i := 12) (N := some 216) (v := undef) (a' := ?_) #[true, true, true, true, true, true, true, true, true, true, true, true, true, false, false] rfl rfl (any_of HT_.out (by kernel_rfl)) (fun _ _ _ h => h) (Or.inr ⟨by rfl, rfl⟩) ?_ ?_
                                                                    rotate_left
                                                                    · simp only [Act.put, List.setIfInBounds_toArray, List.set_cons_zero, List.set_cons_succ, i64_w, i32_w]
                                                                      rfl
                                                                    refine pure_ (i := 13) (N := some 217) (v := undef) (a' := ?_) #[true, true, true, true, true, true, true, true, true, true, true, true, true, true, false] rfl rfl (any_of HT_.out (by kernel_rfl)) (fun _ _ _ h => h) (Or.inr ⟨by rfl, rfl⟩) ?_ ?_
                                                                    rotate_left
                                                                    · simp only [Act.put, List.setIfInBounds_toArray, List.set_cons_zero, List.set_cons_succ, i64_w, i32_w]
                                                                      rfl
                                                                    refine pure_ (i := 14) (N := some 218) (v := ?_) (a' := ?_) #[true, true, true, true, true, true, true, true, true, true, true, true, true, true, true] rfl rfl (any_of HT_.out (by kernel_rfl)) (fun _ _ _ h => h) (Or.inl ⟨by rfl, ?_⟩) ?_ ?_
                                                                    rotate_left
                                                                    · intro w'
                                                                      go_simp
                                                                      with_reducible rfl
                                                                    rotate_left
                                                                    · simp only [Act.put, List.setIfInBounds_toArray, List.set_cons_zero, List.set_cons_succ, i64_w, i32_w]
                                                                      rfl
                                                                    refine done_ (done_of HT_.out (by kernel_rfl)) ?_
                                                                    try go_wp2
                                                                    go_ret
                                                                    exact ⟨by first | rfl | (simp [errW_none, errW_some] <;> rfl) | (simp [*, errW_none, errW_some] <;> rfl), by repeat (first | (with_reducible first | exact HB.out | apply below_alloc | apply pw_below_drewN | apply below_drew1) | exact HB.out)⟩
                                                                  · rw [if_neg c104] at H
                                                                    have c104b0 : (x25_8 == (t284.length : Int)) = false := beq_eq_false_iff_ne.mpr c104
                                                                    have c104b1 : (x25_8 != (t284.length : Int)) = true := bne_iff_ne.mpr c104
                                                                    have H' := Aside0.mk H
                                                                    clear H
                                                                    try go_wp2
                                                                    have n0_ := Aside0.mk (Kd.R_drew HO_13.out)
                                                                    have n1_ := Aside0.mk (Kd.R_drew HO_23.out)
                                                                    have n2_ := Aside0.mk (below_drew1 HB.out)
                                                                    clear HO_13
                                                                    clear HO_23
                                                                    clear HB
                                                                    have HO_13 := n0_
                                                                    have HO_23 := n1_
                                                                    have HB := n2_
                                                                    clear n0_ n1_ n2_
                                                                    obtain ⟨Ao108, co108, eo108⟩ := Kd.R_slice HO_23.out
                                                                    (first | subst eo108 | (injection eo108 with f1_ f2_ f3_; have f4_ := f1_.symm; have f5_ := f3_.symm; clear f1_ f2_ f3_; subst f4_; subst f5_))
                                                                    refine start_ (n := 15) (S := fun w' => True) (ds := []) #[false, false, false, false, false, false, false, false, false, false, false, false, false, false, false] (by kernel_rfl) rfl rfl trivial (fun hHeld => ?_); refine with_tabW laws_FnOctals.tab35 laws_FnOctals.bits35 (fun HT_ HW_ => ?_)
                                                                    generalize wr.drew = w107 at HO_13 HO_23 HB hHeld ⊢
                                                                    refine pure_ (i := 0) (N := some 204) (v := ?_) (a' := ?_) #[true, false, false, false, false, false, false, false, false, false, false, false, false, false, false] rfl rfl (any_of HT_.out (by kernel_rfl)) (fun _ _ _ h => h) (Or.inl ⟨by rfl, ?_⟩) ?_ ?_
                                                                    rotate_left
                                                                    · intro w'
                                                                      go_simp
                                                                      with_reducible rfl
                                                                    rotate_left
                                                                    · simp only [Act.put, List.setIfInBounds_toArray, List.set_cons_zero, List.set_cons_succ, i64_w, i32_w]
                                                                      rfl
                                                                    refine pure_ (i := 1) (N := some 205) (v := ?_) (a' := ?_) #[true, true, false, false, false, false, false, false, false, false, false, false, false, false, false] rfl rfl (any_of HT_.out (by kernel_rfl)) (fun _ _ _ h => h) (Or.inl ⟨by rfl, ?_⟩) ?_ ?_
                                                                    rotate_left
                                                                    · intro w'
                                                                      go_simp
                                                                      with_reducible rfl
                                                                    rotate_left
                                                                    · simp only [Act.put, List.setIfInBounds_toArray, List.set_cons_zero, List.set_cons_succ, i64_w, i32_w]
                                                                      rfl
                                                                    refine pure_ (i := 2) (N := some 206) (v := ?_) (a' := ?_) #[true, true, true, false, false, false, false, false, false, false, false, false, false, false, false] rfl rfl (any_of HT_.out (by kernel_rfl)) (fun _ _ _ h => h) (Or.inl ⟨by rfl, ?_⟩) ?_ ?_
                                                                    rotate_left
                                                                    · intro w'
                                                                      go_simp
                                                                      with_reducible rfl
                                                                    rotate_left
                                                                    · simp only [Act.put, List.setIfInBounds_toArray, List.set_cons_zero, List.set_cons_succ, i64_w, i32_w]
                                                                      rfl
                                                                    refine pure_ (i := 3) (N := some 207) (v := ?_) (a' := ?_) #[true, true, true, true, false, false, false, false, false, false, false, false, false, false, false] rfl rfl (any_of HT_.out (by kernel_rfl)) (fun _ _ _ h => h) (Or.inl ⟨by rfl, ?_⟩) ?_ ?_
                                                                    rotate_left
                                                                    · intro w'
                                                                      go_simp
                                                                      with_reducible rfl
                                                                    rotate_left
                                                                    · simp only [Act.put, List.setIfInBounds_toArray, List.set_cons_zero, List.set_cons_succ, i64_w, i32_w]
                                                                      rfl
                                                                    refine pure_ (i := 4) (N := some 208) (v := ?_) (a' := ?_) #[true, true, true, true, true, false, false, false, false, false, false, false, false, false, false] rfl rfl (any_of HT_.out (by kernel_rfl)) (fun _ _ _ h => h) (Or.inl ⟨by rfl, ?_⟩) ?_ ?_
                                                                    rotate_left
                                                                    · intro w'
                                                                      go_simp
                                                                      with_reducible rfl
                                                                    rotate_left
                                                                    · simp only [Act.put, List.setIfInBounds_toArray, List.set_cons_zero, List.set_cons_succ, i64_w, i32_w]
                                                                      rfl
                                                                    refine pure_ (i := 5) (N := some 209) (v := undef) (a' := ?_) #[true, true, true, true, true, true, false, false, false, false, false, false, false, false, false] rfl rfl (any_of HT_.out (by kernel_rfl)) (fun _ _ _ h => h) (Or.inr ⟨by rfl, rfl⟩) ?_ ?_
                                                                    rotate_left
                                                                    · simp only [Act.put, List.setIfInBounds_toArray, List.set_cons_zero, List.set_cons_succ, i64_w, i32_w]
                                                                      rfl
                                                                    refine pure_ (i := 6) (N := some 210) (v := undef) (a' := ?_) #[true, true, true, true, true, true, true, false, false, false, false, false, false, false, false] rfl rfl (any_of HT_.out (by kernel_rfl)) (fun _ _ _ h => h) (Or.inr ⟨by rfl, rfl⟩) ?_ ?_
                                                                    rotate_left
                                                                    · simp only [Act.put, List.setIfInBounds_toArray, List.set_cons_zero, List.set_cons_succ, i64_w, i32_w]
                                                                      rfl
                                                                    refine pure_ (i := 7) (N := some 211) (v := undef) (a' := ?_) #[true, true, true, true, true, true, true, true, false, false, false, false, false, false, false] rfl rfl (any_of HT_.out (by kernel_rfl)) (fun _ _ _ h => h) (Or.inr ⟨by rfl, rfl⟩) ?_ ?_
                                                                    rotate_left
                                                                    · simp only [Act.put, List.setIfInBounds_toArray, List.set_cons_zero, List.set_cons_succ, i64_w, i32_w]
                                                                      rfl
                                                                    refine pure_ (i := 8) (N := some 212) (v := undef) (a' := ?_) #[true, true, true, true, true, true, true, true, true, false, false, false, false, false, false] rfl rfl (any_of HT_.out (by kernel_rfl)) (fun _ _ _ h => h) (Or.inr ⟨by rfl, rfl⟩) ?_ ?_
                                                                    rotate_left
                                                                    · simp only [Act.put, List.setIfInBounds_toArray, List.set_cons_zero, List.set_cons_succ, i64_w, i32_w]
                                                                      rfl
                                                                    refine pure_ (i := 9) (N := some 213) (v := undef) (a' := ?_) #[true, true, true, true, true, true, true, true, true, true, false, false, false, false, false] rfl rfl (any_of HT_.out (by kernel_rfl)) (fun _ _ _ h => h) (Or.inr ⟨by rfl, rfl⟩) ?_ ?_
                                                                    rotate_left
                                                                    · simp only [Act.put, List.setIfInBounds_toArray, List.set_cons_zero, List.set_cons_succ, i64_w, i32_w]
                                                                      rfl
                                                                    refine pure_ (i := 10) (N := some 214) (v := undef) (a' := ?_) #[true, true, true, true, true, true, true, true, true, true, true, false, false, false, false] rfl rfl (any_of HT_.out (by kernel_rfl)) (fun _ _ _ h => h) (Or.inr ⟨by rfl, rfl⟩) ?_ ?_
                                                                    rotate_left
                                                                    · simp only [Act.put, List.setIfInBounds_toArray, List.set_cons_zero, List.set_cons_succ, i64_w, i32_w]
                                                                      rfl
                                                                    refine pure_ (i := 11) (N := some 215) (v := undef) (a' := ?_) #[true, true, true, true, true, true, true, true, true, true, true, true, false, false, false] rfl rfl (any_of HT_.out (by kernel_rfl)) (fun _ _ _ h => h) (Or.inr ⟨by rfl, rfl⟩) ?_ ?_
                                                                    rotate_left
                                                                    · simp only [Act.put, List.setIfInBounds_toArray, List.set_cons_zero, List.set_cons_succ, i64_w, i32_w]
                                                                      rfl
                                                                    refine pure_ (i := 12) (N := some 216) (v := undef) (a' := ?_) #[true, true, true, true, true, true, true, true, true, true, true, true, true, false, false] rfl rfl (any_of HT_.out (by kernel_rfl)) (fun _ _ _ h => h) (Or.inr ⟨by rfl, rfl⟩) ?_ ?_
                                                                    rotate_left
                                                                    · simp only [Act.put, List.setIfInBounds_toArray, List.set_cons_zero, List.set_cons_succ, i64_w, i32_w]
                                                                      rfl
                                                                    refine pure_ (i := 13) (N := some 217) (v := undef) (a' := ?_) #[true, true, true, true, true, true, true, true, true, true, true, true, true, true, false] rfl rfl (any_of HT_.out (by kernel_rfl)) (fun _ _ _ h => h) (Or.inr ⟨by rfl, rfl⟩) ?_ ?_
                                                                    rotate_left
                                                                    · simp only [Act.put, List.setIfInBounds_toArray, List.set_cons_zero, List.set_cons_succ, i64_w, i32_w]
                                                                      rfl
                                                                    refine pure_ (i := 14) (N := some 218) (v := ?_) (a' := ?_) #[true, true, true, true, true, true, true, true, true, true, true, true, true, true, true] rfl rfl (any_of HT_.out (by kernel_rfl)) (fun _ _ _ h => h) (Or.inl ⟨by rfl, ?_⟩) ?_ ?_
                                                                    rotate_left
                                                                    · intro w'
                                                                      go_simp
                                                                      with_reducible rfl
                                                                    rotate_left
                                                                    · simp only [Act.put, List.setIfInBounds_toArray, List.set_cons_zero, List.set_cons_succ, i64_w, i32_w]
                                                                      rfl
                                                                    refine done_ (done_of HT_.out (by kernel_rfl)) ?_
                                                                    try go_wp2
                                                                    go_roundg k8
                                                                    case measure => have := HJ2.out; have := HJ13.out; have := HK3.out; have := HJ65.out; have := HK5.out; have := HJ84.out; have := HK7.out; have := HK8.out; omega
                                                                    case rel => exact ⟨(x25_8), (wrap64 (x26_7 + 1)), (by first | rfl | (simp; done) | (simp [*]; done)), (by first | rfl | (simp; done) | (simp [*]; done)), H', ⟨by have := HJ2.out; have := HJ13.out; have := HK3.out; have := HJ65.out; have := HK5.out; have := HJ84.out; have := HK7.out; have := HK8.out; omega⟩, ⟨by (with_reducible repeat (first | apply Kd.R_alloc | apply Kd.R_drewN | apply Kd.R_drew)); exact HO_13.out⟩, ⟨by (with_reducible repeat (first | apply Kd.R_alloc | apply Kd.R_drewN | apply Kd.R_drew)); exact HO_23.out⟩, ⟨by repeat (first | (with_reducible first | exact HB.out | apply below_alloc | apply pw_below_drewN | apply below_drew1) | exact HB.out)⟩⟩
                                                        · rw [if_neg c91] at H
                                                          have c91b0 : decide (x26_7 < (t256.length : Int)) = false := decide_eq_false c91
                                                          clear c91
                                                          obtain rfl := Option.some.inj H
                                                          go_wp2
                                                          go_ret
                                                          exact ⟨by first | rfl | (simp [errW_none, errW_some] <;> rfl) | (simp [*, errW_none, errW_some] <;> rfl), by repeat (first | (with_reducible first | exact HB.out | apply below_alloc | apply pw_below_drewN | apply below_drew1) | exact HB.out)⟩

/-- THE ONE PURE STATEMENT of laws_FnOctals: yours. -/
def laws_FnOctals.Pure : Prop := ∀ (l0 : List Int) (l1 : List Int), l0.length ≤ maxLen → l0.length * 1 ≤ 140737488351232 → (∀ x ∈ l0, (Lit.int .u8 x).wf = true) → l1.length ≤ maxLen → l1.length * 1 ≤ 140737488351232 → (∀ x ∈ l1, (Lit.int .u8 x).wf = true) → ∃ k, laws_FnOctals.f k l0 l1 = some true
theorem laws_FnOctals.walk (P : laws_FnOctals.Pure) (a0 : Option Addr) (len0 cap0 : Nat) (z0 : List Int) (a1 : Option Addr) (len1 cap1 : Nat) (z1 : List Int) (w : World) (w0 : (a0 = none ∧ len0 = 0 ∧ cap0 = 0 ∧ z0 = []) ∨ ∃ x, a0 = some x ∧ len0 ≤ cap0 ∧ cap0 ≤ maxLen ∧ z0.length = cap0 ∧ (∀ i, i < z0.length → w.cell? (x.add i) = some (.int .u8 (z0.getD i 0))) ∧ ∀ n ∈ z0, (Lit.int .u8 n).wf = true) (y0 : len0 * 1 ≤ 140737488351232) (w1 : (a1 = none ∧ len1 = 0 ∧ cap1 = 0 ∧ z1 = []) ∨ ∃ x, a1 = some x ∧ len1 ≤ cap1 ∧ cap1 ≤ maxLen ∧ z1.length = cap1 ∧ (∀ i, i < z1.length → w.cell? (x.add i) = some (.int .u8 (z1.getD i 0))) ∧ ∀ n ∈ z1, (Lit.int .u8 n).wf = true) (y1 : len1 * 1 ≤ 140737488351232) :
    Calls Try.prog 9 #[.slice a0 len0 cap0, .slice a1 len1 cap1] w fun e w' => e = .returned (.bool true) ∧ Below w.heap.size w w' := by
  obtain ⟨l0, rfl, hr0, hm0, hw0, hc0⟩ := ReadsInt.ofRowC w0
  obtain ⟨l1, rfl, hr1, hm1, hw1, hc1⟩ := ReadsInt.ofRowC w1
  obtain ⟨k, h⟩ := P l0 l1 hm0 y0 hw0 hm1 y1 hw1
  refine (laws_FnOctals.calls k _ _ l0 _ _ l1 true w (Kd.C_of_reads (d := (0 : Int)) (h1 := fun _ => rfl) hr0) hc0 (Kd.C_of_reads (d := (0 : Int)) (h1 := fun _ => rfl) hr1) hc1 h).mono ?_
  rintro e w' ⟨rfl, hd⟩
  exact ⟨rfl, hd⟩

end Go.Proofs.Yteinllalhiflcaa.QFnOctals
