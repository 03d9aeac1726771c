/- Written by the session's own program (wip/myprint.py), for the law FnHeapsTaken: each function as a plain Lean function, and its contract. -/
import Derived.Test.YteinllalhiflcaaQFnHeapsTakenx0
import Derived.Test.YteinllalhiflcaaQFnHeapsTakenx3
import Derived.Test.YteinllalhiflcaaQFnHeapsTakenx4
import Derived.Test.YteinllalhiflcaaQFnHeapsTakenx5
import Derived.Test.YteinllalhiflcaaQFnHeapsTakenx6
import Derived.Test.YteinllalhiflcaaQFnHeapsTakenx7
import Derived.Test.YteinllalhiflcaaQFnHeapsTakenx8
namespace Go.Proofs.Yteinllalhiflcaa.QFnHeapsTaken
open Go.RowKit Go.Proofs.YteinllalhiflcaaW.PrintWords Go.Proofs.YteinllalhiflcaaW.PrintLast Go.Proofs.YteinllalhiflcaaW.PrintMore
attribute [local go_sem] max2_int min2_int max_two min_two max_three min_three max_four min_four   -- for this text's walks alone
set_option linter.unusedVariables false
set_option linter.unusedSimpArgs false

/-! ### laws_FnHeapsTaken: function 4 -/
mutual
def laws_FnHeapsTaken.j0 : Nat → List Int → List Int → Bool → Option (Bool)
  | 0, _, _, _ => none
  | k + 1, x0, x1, x35 => if x35 = true then (some true) else ((spec_P6Takes.f x0).bind fun t273 => ((spec_P6Heaps.f k x1).bind fun t274 => ((impl_TakeValues.f k t273 200).bind fun bt277 => ((spec_TakeValues.f k t273 200).bind fun bt281 => ((impl_TakeMoves.f k t273 t274).bind fun bt285 => ((spec_TakeMoves.f k t273 t274).bind fun bt289 => ((impl_TakePeriod.f k t273).bind fun bt293 => ((spec_TakePeriod.f k t273).bind fun bt296 => (if bt277.2 = bt281.2 then (if bt277.2 = 0 then ((spec_SameNims.f k bt277.1 bt281.1).bind fun t299 => (if t299 = true then (if (bt281.1.length : Int) = 201 then (if bt285.2 = bt289.2 then (if bt285.2 = 0 then ((spec_SamePairs.f k bt285.1 bt289.1).bind fun t300 => (if t300 = true then (if bt293.2.2 = bt296.2.2 then (if bt293.1 = bt296.1 then (laws_FnHeapsTaken.j1 k t273 t274 bt281.1 bt289.1 bt293.2.2 bt296.1 bt296.2.1 (bt293.2.1 != bt296.2.1)) else (laws_FnHeapsTaken.j1 k t273 t274 bt281.1 bt289.1 bt293.2.2 bt296.1 bt296.2.1 true)) else (laws_FnHeapsTaken.j1 k t273 t274 bt281.1 bt289.1 bt293.2.2 bt296.1 bt296.2.1 true)) else (laws_FnHeapsTaken.j1 k t273 t274 bt281.1 bt289.1 bt293.2.2 bt296.1 bt296.2.1 true))) else (laws_FnHeapsTaken.j1 k t273 t274 bt281.1 bt289.1 bt293.2.2 bt296.1 bt296.2.1 true)) else (laws_FnHeapsTaken.j1 k t273 t274 bt281.1 bt289.1 bt293.2.2 bt296.1 bt296.2.1 true)) else (laws_FnHeapsTaken.j1 k t273 t274 bt281.1 bt289.1 bt293.2.2 bt296.1 bt296.2.1 true)) else (laws_FnHeapsTaken.j1 k t273 t274 bt281.1 bt289.1 bt293.2.2 bt296.1 bt296.2.1 true))) else (laws_FnHeapsTaken.j1 k t273 t274 bt281.1 bt289.1 bt293.2.2 bt296.1 bt296.2.1 true)) else (laws_FnHeapsTaken.j1 k t273 t274 bt281.1 bt289.1 bt293.2.2 bt296.1 bt296.2.1 true))))))))))
def laws_FnHeapsTaken.j1 : Nat → Int → List Int → List Int → List (S46) → Int → Int → Int → Bool → Option (Bool)
  | 0, _, _, _, _, _, _, _, _ => none
  | k + 1, x5, x6, x9, x13, x17, x18, x19, x121 => if x121 = true then (some false) else (laws_FnHeapsTaken.l0 k x5 x6 x9 x13 x17 x18 x19 0 0)
def laws_FnHeapsTaken.l0 : Nat → Int → List Int → List Int → List (S46) → Int → Int → Int → Int → Int → Option (Bool)
  | 0, _, _, _, _, _, _, _, _, _ => none
  | k + 1, x5, x6, x9, x13, x17, x18, x19, x21, x22 => if x22 < (x6.length : Int) then (if 0 ≤ x22 then (if 0 ≤ (rd x6 x22) then (if (rd x6 x22) < (x9.length : Int) then ((impl_PlusNim.f x21 (rd x9 (rd x6 x22))).bind fun t303 => (laws_FnHeapsTaken.l0 k x5 x6 x9 x13 x17 x18 x19 t303 (wrap64 (x22 + 1)))) else (none)) else (none)) else (none)) else (if ((decide ((x13.length : Int) > 0)) != (x21 != 0)) = true then (some false) else (laws_FnHeapsTaken.l1 k x5 x6 x9 x13 x17 x18 x19 x21 0))
def laws_FnHeapsTaken.l1 : Nat → Int → List Int → List Int → List (S46) → Int → Int → Int → Int → Int → Option (Bool)
  | 0, _, _, _, _, _, _, _, _, _ => none
  | k + 1, x5, x6, x9, x13, x17, x18, x19, x21, x23 => if x23 < (x13.length : Int) then (if 0 ≤ x23 then (if ((rd_T46 x13 x23).f0) < 0 then (laws_FnHeapsTaken.j4 k x5 x6 x9 x13 x17 x18 x19 x21 x23 ((rd_T46 x13 x23).f0) ((rd_T46 x13 x23).f1) true) else (if ((rd_T46 x13 x23).f0) ≥ (x6.length : Int) then (laws_FnHeapsTaken.j4 k x5 x6 x9 x13 x17 x18 x19 x21 x23 ((rd_T46 x13 x23).f0) ((rd_T46 x13 x23).f1) true) else (if ((rd_T46 x13 x23).f1) < 0 then (laws_FnHeapsTaken.j4 k x5 x6 x9 x13 x17 x18 x19 x21 x23 ((rd_T46 x13 x23).f0) ((rd_T46 x13 x23).f1) true) else (if 0 ≤ ((rd_T46 x13 x23).f0) then (if ((rd_T46 x13 x23).f0) < (x6.length : Int) then (if ((rd_T46 x13 x23).f1) ≥ (rd x6 ((rd_T46 x13 x23).f0)) then (laws_FnHeapsTaken.j4 k x5 x6 x9 x13 x17 x18 x19 x21 x23 ((rd_T46 x13 x23).f0) ((rd_T46 x13 x23).f1) true) else (if 0 ≤ (IntKind.u64.wrap (wrap64 ((rd x6 ((rd_T46 x13 x23).f0)) - ((rd_T46 x13 x23).f1)))) then (laws_FnHeapsTaken.j4 k x5 x6 x9 x13 x17 x18 x19 x21 x23 ((rd_T46 x13 x23).f0) ((rd_T46 x13 x23).f1) ((Go.bits .and .u64 (shr .u64 x5 (IntKind.u64.wrap (wrap64 ((rd x6 ((rd_T46 x13 x23).f0)) - ((rd_T46 x13 x23).f1))))) 1) == 0)) else (none))) else (none)) else (none))))) else (none)) else (if x17 = 0 then (if (wrap64 (x18 + x19)) > 201 then (some true) else ((impl_RepeatsFrom.f k x9 x18 x19).bind fun bt313 => ((spec_RepeatsFrom.f k x9 x18 x19).bind fun bt315 => (if bt313.2 = bt315.2 then (if bt313.2 = 0 then (if bt313.1 = true then (some bt315.1) else (some false)) else (some false)) else (some false))))) else (some (x17 == 6)))
def laws_FnHeapsTaken.j4 : Nat → Int → List Int → List Int → List (S46) → Int → Int → Int → Int → Int → Int → Int → Bool → Option (Bool)
  | 0, _, _, _, _, _, _, _, _, _, _, _, _ => none
  | k + 1, x5, x6, x9, x13, x17, x18, x19, x21, x23, x24, x25, x191 => if x191 = true then (some false) else (if 0 ≤ x24 then (if x24 < (x6.length : Int) then (if 0 ≤ (rd x6 x24) then (if (rd x6 x24) < (x9.length : Int) then (if 0 ≤ x25 then (if x25 < (x9.length : Int) then ((impl_PlusNim.f (rd x9 (rd x6 x24)) (rd x9 x25)).bind fun t311 => ((impl_PlusNim.f x21 t311).bind fun t312 => (if t312 = 0 then (laws_FnHeapsTaken.l1 k x5 x6 x9 x13 x17 x18 x19 x21 (wrap64 (x23 + 1))) else (some false)))) else (none)) else (none)) else (none)) else (none)) else (none)) else (none))
end
def laws_FnHeapsTaken.f (k : Nat) (l0 : List Int) (l1 : List Int) : Option (Bool) := (laws_f6big.f l0).bind fun t271 => (if t271 = true then (laws_FnHeapsTaken.j0 k l0 l1 true) else ((laws_f6big.f l1).bind fun t272 => (laws_FnHeapsTaken.j0 k l0 l1 t272)))
theorem laws_FnHeapsTaken.mono_l : ∀ k, (∀ y0 y1 y2, LeO (laws_FnHeapsTaken.j0 k y0 y1 y2) (laws_FnHeapsTaken.j0 (k + 1) y0 y1 y2)) ∧ (∀ y0 y1 y2 y3 y4 y5 y6 y7, LeO (laws_FnHeapsTaken.j1 k y0 y1 y2 y3 y4 y5 y6 y7) (laws_FnHeapsTaken.j1 (k + 1) y0 y1 y2 y3 y4 y5 y6 y7)) ∧ (∀ y0 y1 y2 y3 y4 y5 y6 y7 y8, LeO (laws_FnHeapsTaken.l0 k y0 y1 y2 y3 y4 y5 y6 y7 y8) (laws_FnHeapsTaken.l0 (k + 1) y0 y1 y2 y3 y4 y5 y6 y7 y8)) ∧ (∀ y0 y1 y2 y3 y4 y5 y6 y7 y8, LeO (laws_FnHeapsTaken.l1 k y0 y1 y2 y3 y4 y5 y6 y7 y8) (laws_FnHeapsTaken.l1 (k + 1) y0 y1 y2 y3 y4 y5 y6 y7 y8)) ∧ (∀ y0 y1 y2 y3 y4 y5 y6 y7 y8 y9 y10 y11, LeO (laws_FnHeapsTaken.j4 k y0 y1 y2 y3 y4 y5 y6 y7 y8 y9 y10 y11) (laws_FnHeapsTaken.j4 (k + 1) y0 y1 y2 y3 y4 y5 y6 y7 y8 y9 y10 y11))
  | 0 => ⟨fun _ _ _ r h => by simp [laws_FnHeapsTaken.j0] at h, fun _ _ _ _ _ _ _ _ r h => by simp [laws_FnHeapsTaken.j1] at h, fun _ _ _ _ _ _ _ _ _ r h => by simp [laws_FnHeapsTaken.l0] at h, fun _ _ _ _ _ _ _ _ _ r h => by simp [laws_FnHeapsTaken.l1] at h, fun _ _ _ _ _ _ _ _ _ _ _ _ r h => by simp [laws_FnHeapsTaken.j4] at h⟩
  | k + 1 => by
    obtain ⟨ih0, ih1, ih2, ih3, ih4⟩ := laws_FnHeapsTaken.mono_l k
    refine ⟨?_, ?_, ?_, ?_, ?_⟩
    · intro y0 y1 y2
      unfold laws_FnHeapsTaken.j0
      repeat' first
      | (with_reducible exact ih0 _ _ _)
      | (with_reducible exact ih1 _ _ _ _ _ _ _ _)
      | (with_reducible exact ih2 _ _ _ _ _ _ _ _ _)
      | (with_reducible exact ih3 _ _ _ _ _ _ _ _ _)
      | (with_reducible exact ih4 _ _ _ _ _ _ _ _ _ _ _ _)
      | (with_reducible exact impl_RepeatsFrom.mono _ _ _ _)
      | (with_reducible exact impl_TakeMoves.mono _ _ _)
      | (with_reducible exact impl_TakePeriod.mono _ _)
      | (with_reducible exact impl_TakeValues.mono _ _ _)
      | (with_reducible exact spec_P6Heaps.mono _ _)
      | (with_reducible exact spec_RepeatsFrom.mono _ _ _ _)
      | (with_reducible exact spec_SameNims.mono _ _ _)
      | (with_reducible exact spec_SamePairs.mono _ _ _)
      | (with_reducible exact spec_TakeMoves.mono _ _ _)
      | (with_reducible exact spec_TakePeriod.mono _ _)
      | (with_reducible exact spec_TakeValues.mono _ _ _)
      | (with_reducible exact LeO.refl _)
      | (with_reducible exact LeO.none _)
      | (with_reducible refine LeO.ite ?_ ?_)
      | (with_reducible refine LeO.bind ?_ (fun _ => ?_))
      | exact ih0 _ _ _
      | exact ih1 _ _ _ _ _ _ _ _
      | exact ih2 _ _ _ _ _ _ _ _ _
      | exact ih3 _ _ _ _ _ _ _ _ _
      | exact ih4 _ _ _ _ _ _ _ _ _ _ _ _
      | exact impl_RepeatsFrom.mono _ _ _ _
      | exact impl_TakeMoves.mono _ _ _
      | exact impl_TakePeriod.mono _ _
      | exact impl_TakeValues.mono _ _ _
      | exact spec_P6Heaps.mono _ _
      | exact spec_RepeatsFrom.mono _ _ _ _
      | exact spec_SameNims.mono _ _ _
      | exact spec_SamePairs.mono _ _ _
      | exact spec_TakeMoves.mono _ _ _
      | exact spec_TakePeriod.mono _ _
      | exact spec_TakeValues.mono _ _ _
      | exact LeO.none _
      | refine LeO.ite ?_ ?_
      | refine LeO.bind ?_ (fun _ => ?_)
    · intro y0 y1 y2 y3 y4 y5 y6 y7
      unfold laws_FnHeapsTaken.j1
      repeat' first
      | (with_reducible exact ih0 _ _ _)
      | (with_reducible exact ih1 _ _ _ _ _ _ _ _)
      | (with_reducible exact ih2 _ _ _ _ _ _ _ _ _)
      | (with_reducible exact ih3 _ _ _ _ _ _ _ _ _)
      | (with_reducible exact ih4 _ _ _ _ _ _ _ _ _ _ _ _)
      | (with_reducible exact impl_RepeatsFrom.mono _ _ _ _)
      | (with_reducible exact impl_TakeMoves.mono _ _ _)
      | (with_reducible exact impl_TakePeriod.mono _ _)
      | (with_reducible exact impl_TakeValues.mono _ _ _)
      | (with_reducible exact spec_P6Heaps.mono _ _)
      | (with_reducible exact spec_RepeatsFrom.mono _ _ _ _)
      | (with_reducible exact spec_SameNims.mono _ _ _)
      | (with_reducible exact spec_SamePairs.mono _ _ _)
      | (with_reducible exact spec_TakeMoves.mono _ _ _)
      | (with_reducible exact spec_TakePeriod.mono _ _)
      | (with_reducible exact spec_TakeValues.mono _ _ _)
      | (with_reducible exact LeO.refl _)
      | (with_reducible exact LeO.none _)
      | (with_reducible refine LeO.ite ?_ ?_)
      | (with_reducible refine LeO.bind ?_ (fun _ => ?_))
      | exact ih0 _ _ _
      | exact ih1 _ _ _ _ _ _ _ _
      | exact ih2 _ _ _ _ _ _ _ _ _
      | exact ih3 _ _ _ _ _ _ _ _ _
      | exact ih4 _ _ _ _ _ _ _ _ _ _ _ _
      | exact impl_RepeatsFrom.mono _ _ _ _
      | exact impl_TakeMoves.mono _ _ _
      | exact impl_TakePeriod.mono _ _
      | exact impl_TakeValues.mono _ _ _
      | exact spec_P6Heaps.mono _ _
      | exact spec_RepeatsFrom.mono _ _ _ _
      | exact spec_SameNims.mono _ _ _
      | exact spec_SamePairs.mono _ _ _
      | exact spec_TakeMoves.mono _ _ _
      | exact spec_TakePeriod.mono _ _
      | exact spec_TakeValues.mono _ _ _
      | exact LeO.none _
      | refine LeO.ite ?_ ?_
      | refine LeO.bind ?_ (fun _ => ?_)
    · intro y0 y1 y2 y3 y4 y5 y6 y7 y8
      unfold laws_FnHeapsTaken.l0
      repeat' first
      | (with_reducible exact ih0 _ _ _)
      | (with_reducible exact ih1 _ _ _ _ _ _ _ _)
      | (with_reducible exact ih2 _ _ _ _ _ _ _ _ _)
      | (with_reducible exact ih3 _ _ _ _ _ _ _ _ _)
      | (with_reducible exact ih4 _ _ _ _ _ _ _ _ _ _ _ _)
      | (with_reducible exact impl_RepeatsFrom.mono _ _ _ _)
      | (with_reducible exact impl_TakeMoves.mono _ _ _)
      | (with_reducible exact impl_TakePeriod.mono _ _)
      | (with_reducible exact impl_TakeValues.mono _ _ _)
      | (with_reducible exact spec_P6Heaps.mono _ _)
      | (with_reducible exact spec_RepeatsFrom.mono _ _ _ _)
      | (with_reducible exact spec_SameNims.mono _ _ _)
      | (with_reducible exact spec_SamePairs.mono _ _ _)
      | (with_reducible exact spec_TakeMoves.mono _ _ _)
      | (with_reducible exact spec_TakePeriod.mono _ _)
      | (with_reducible exact spec_TakeValues.mono _ _ _)
      | (with_reducible exact LeO.refl _)
      | (with_reducible exact LeO.none _)
      | (with_reducible refine LeO.ite ?_ ?_)
      | (with_reducible refine LeO.bind ?_ (fun _ => ?_))
      | exact ih0 _ _ _
      | exact ih1 _ _ _ _ _ _ _ _
      | exact ih2 _ _ _ _ _ _ _ _ _
      | exact ih3 _ _ _ _ _ _ _ _ _
      | exact ih4 _ _ _ _ _ _ _ _ _ _ _ _
      | exact impl_RepeatsFrom.mono _ _ _ _
      | exact impl_TakeMoves.mono _ _ _
      | exact impl_TakePeriod.mono _ _
      | exact impl_TakeValues.mono _ _ _
      | exact spec_P6Heaps.mono _ _
      | exact spec_RepeatsFrom.mono _ _ _ _
      | exact spec_SameNims.mono _ _ _
      | exact spec_SamePairs.mono _ _ _
      | exact spec_TakeMoves.mono _ _ _
      | exact spec_TakePeriod.mono _ _
      | exact spec_TakeValues.mono _ _ _
      | exact LeO.none _
      | refine LeO.ite ?_ ?_
      | refine LeO.bind ?_ (fun _ => ?_)
    · intro y0 y1 y2 y3 y4 y5 y6 y7 y8
      unfold laws_FnHeapsTaken.l1
      repeat' first
      | (with_reducible exact ih0 _ _ _)
      | (with_reducible exact ih1 _ _ _ _ _ _ _ _)
      | (with_reducible exact ih2 _ _ _ _ _ _ _ _ _)
      | (with_reducible exact ih3 _ _ _ _ _ _ _ _ _)
      | (with_reducible exact ih4 _ _ _ _ _ _ _ _ _ _ _ _)
      | (with_reducible exact impl_RepeatsFrom.mono _ _ _ _)
      | (with_reducible exact impl_TakeMoves.mono _ _ _)
      | (with_reducible exact impl_TakePeriod.mono _ _)
      | (with_reducible exact impl_TakeValues.mono _ _ _)
      | (with_reducible exact spec_P6Heaps.mono _ _)
      | (with_reducible exact spec_RepeatsFrom.mono _ _ _ _)
      | (with_reducible exact spec_SameNims.mono _ _ _)
      | (with_reducible exact spec_SamePairs.mono _ _ _)
      | (with_reducible exact spec_TakeMoves.mono _ _ _)
      | (with_reducible exact spec_TakePeriod.mono _ _)
      | (with_reducible exact spec_TakeValues.mono _ _ _)
      | (with_reducible exact LeO.refl _)
      | (with_reducible exact LeO.none _)
      | (with_reducible refine LeO.ite ?_ ?_)
      | (with_reducible refine LeO.bind ?_ (fun _ => ?_))
      | exact ih0 _ _ _
      | exact ih1 _ _ _ _ _ _ _ _
      | exact ih2 _ _ _ _ _ _ _ _ _
      | exact ih3 _ _ _ _ _ _ _ _ _
      | exact ih4 _ _ _ _ _ _ _ _ _ _ _ _
      | exact impl_RepeatsFrom.mono _ _ _ _
      | exact impl_TakeMoves.mono _ _ _
      | exact impl_TakePeriod.mono _ _
      | exact impl_TakeValues.mono _ _ _
      | exact spec_P6Heaps.mono _ _
      | exact spec_RepeatsFrom.mono _ _ _ _
      | exact spec_SameNims.mono _ _ _
      | exact spec_SamePairs.mono _ _ _
      | exact spec_TakeMoves.mono _ _ _
      | exact spec_TakePeriod.mono _ _
      | exact spec_TakeValues.mono _ _ _
      | exact LeO.none _
      | refine LeO.ite ?_ ?_
      | refine LeO.bind ?_ (fun _ => ?_)
    · intro y0 y1 y2 y3 y4 y5 y6 y7 y8 y9 y10 y11
      unfold laws_FnHeapsTaken.j4
      repeat' first
      | (with_reducible exact ih0 _ _ _)
      | (with_reducible exact ih1 _ _ _ _ _ _ _ _)
      | (with_reducible exact ih2 _ _ _ _ _ _ _ _ _)
      | (with_reducible exact ih3 _ _ _ _ _ _ _ _ _)
      | (with_reducible exact ih4 _ _ _ _ _ _ _ _ _ _ _ _)
      | (with_reducible exact impl_RepeatsFrom.mono _ _ _ _)
      | (with_reducible exact impl_TakeMoves.mono _ _ _)
      | (with_reducible exact impl_TakePeriod.mono _ _)
      | (with_reducible exact impl_TakeValues.mono _ _ _)
      | (with_reducible exact spec_P6Heaps.mono _ _)
      | (with_reducible exact spec_RepeatsFrom.mono _ _ _ _)
      | (with_reducible exact spec_SameNims.mono _ _ _)
      | (with_reducible exact spec_SamePairs.mono _ _ _)
      | (with_reducible exact spec_TakeMoves.mono _ _ _)
      | (with_reducible exact spec_TakePeriod.mono _ _)
      | (with_reducible exact spec_TakeValues.mono _ _ _)
      | (with_reducible exact LeO.refl _)
      | (with_reducible exact LeO.none _)
      | (with_reducible refine LeO.ite ?_ ?_)
      | (with_reducible refine LeO.bind ?_ (fun _ => ?_))
      | exact ih0 _ _ _
      | exact ih1 _ _ _ _ _ _ _ _
      | exact ih2 _ _ _ _ _ _ _ _ _
      | exact ih3 _ _ _ _ _ _ _ _ _
      | exact ih4 _ _ _ _ _ _ _ _ _ _ _ _
      | exact impl_RepeatsFrom.mono _ _ _ _
      | exact impl_TakeMoves.mono _ _ _
      | exact impl_TakePeriod.mono _ _
      | exact impl_TakeValues.mono _ _ _
      | exact spec_P6Heaps.mono _ _
      | exact spec_RepeatsFrom.mono _ _ _ _
      | exact spec_SameNims.mono _ _ _
      | exact spec_SamePairs.mono _ _ _
      | exact spec_TakeMoves.mono _ _ _
      | exact spec_TakePeriod.mono _ _
      | exact spec_TakeValues.mono _ _ _
      | exact LeO.none _
      | refine LeO.ite ?_ ?_
      | refine LeO.bind ?_ (fun _ => ?_)
theorem laws_FnHeapsTaken.mono : ∀ a0 a1 k, LeO (laws_FnHeapsTaken.f k a0 a1) (laws_FnHeapsTaken.f (k + 1) a0 a1) := by
  intro a0 a1 k
  obtain ⟨ih0, ih1, ih2, ih3, ih4⟩ := laws_FnHeapsTaken.mono_l k
  unfold laws_FnHeapsTaken.f
  repeat' first
      | (with_reducible exact ih0 _ _ _)
      | (with_reducible exact ih1 _ _ _ _ _ _ _ _)
      | (with_reducible exact ih2 _ _ _ _ _ _ _ _ _)
      | (with_reducible exact ih3 _ _ _ _ _ _ _ _ _)
      | (with_reducible exact ih4 _ _ _ _ _ _ _ _ _ _ _ _)
      | (with_reducible exact impl_RepeatsFrom.mono _ _ _ _)
      | (with_reducible exact impl_TakeMoves.mono _ _ _)
      | (with_reducible exact impl_TakePeriod.mono _ _)
      | (with_reducible exact impl_TakeValues.mono _ _ _)
      | (with_reducible exact spec_P6Heaps.mono _ _)
      | (with_reducible exact spec_RepeatsFrom.mono _ _ _ _)
      | (with_reducible exact spec_SameNims.mono _ _ _)
      | (with_reducible exact spec_SamePairs.mono _ _ _)
      | (with_reducible exact spec_TakeMoves.mono _ _ _)
      | (with_reducible exact spec_TakePeriod.mono _ _)
      | (with_reducible exact spec_TakeValues.mono _ _ _)
      | (with_reducible exact LeO.refl _)
      | (with_reducible exact LeO.none _)
      | (with_reducible refine LeO.ite ?_ ?_)
      | (with_reducible refine LeO.bind ?_ (fun _ => ?_))
      | exact ih0 _ _ _
      | exact ih1 _ _ _ _ _ _ _ _
      | exact ih2 _ _ _ _ _ _ _ _ _
      | exact ih3 _ _ _ _ _ _ _ _ _
      | exact ih4 _ _ _ _ _ _ _ _ _ _ _ _
      | exact impl_RepeatsFrom.mono _ _ _ _
      | exact impl_TakeMoves.mono _ _ _
      | exact impl_TakePeriod.mono _ _
      | exact impl_TakeValues.mono _ _ _
      | exact spec_P6Heaps.mono _ _
      | exact spec_RepeatsFrom.mono _ _ _ _
      | exact spec_SameNims.mono _ _ _
      | exact spec_SamePairs.mono _ _ _
      | exact spec_TakeMoves.mono _ _ _
      | exact spec_TakePeriod.mono _ _
      | exact spec_TakeValues.mono _ _ _
      | exact LeO.none _
      | refine LeO.ite ?_ ?_
      | refine LeO.bind ?_ (fun _ => ?_)
set_option maxHeartbeats 8000000 in
set_option maxRecDepth 100000 in
theorem laws_FnHeapsTaken.calls (k : Nat) (A0 : Option Addr) (c0 : Nat) (l0 : List Int) (A1 : Option Addr) (c1 : Nat) (l1 : List Int) (r : Bool) (w : World) (hr0 : Kd.C (Kd.int .u8) w A0 l0.length l0) (hc0 : l0.length ≤ c0) (hr1 : Kd.C (Kd.int .u8) w A1 l1.length l1) (hc1 : l1.length ≤ c1) (h : laws_FnHeapsTaken.f k l0 l1 = some r) :
    Calls Try.prog 4 #[.slice A0 l0.length c0, .slice A1 l1.length c1] w fun e w' => e = .returned (.bool r) ∧ Below w.heap.size w w' := by
  have HR0 := Aside0.mk hr0
  have HC0 := Aside0.mk hc0
  clear hr0 hc0
  have HR1 := Aside0.mk hr1
  have HC1 := Aside0.mk hc1
  clear hr1 hc1
  have HB := Aside0.mk (Below.refl w.heap.size w)
  have H : ((laws_f6big.f l0).bind fun t271 => (if t271 = true then (laws_FnHeapsTaken.j0 k l0 l1 true) else ((laws_f6big.f l1).bind fun t272 => (laws_FnHeapsTaken.j0 k l0 l1 t272)))) = some r := h
  clear h
  have HC3 := Aside0.mk H
  clear H
  go_enter Try.func4, Try.ntmps4
  go_upto_region 1 with (fail)
  repeat (go_quiet (fail); go_upto_region 1 with (fail))
  go_cut [35] (fun v35 wc => ∃ (kq : Nat) (x35_2 : Bool), v35 = .bool x35_2 ∧ Aside0 (laws_FnHeapsTaken.j0 kq l0 l1 x35_2 = some r) ∧ Aside0 (kq ≤ k) ∧ Aside0 (Below w.heap.size w wc))
  case first =>
    as_aux_lemma =>
      have H := HC3.out
      clear HC3
      replace H := Option.bind_eq_some_iff.mp H
      obtain ⟨t271, A40, H⟩ := H
      replace H : (if t271 = true then (laws_FnHeapsTaken.j0 k l0 l1 true) else ((laws_f6big.f l1).bind fun t272 => (laws_FnHeapsTaken.j0 k l0 l1 t272))) = some r := H
      have A4 := Aside0.mk A40
      clear A40
      by_cases c5 : t271 = true
      · subst c5
        have H1 : (laws_FnHeapsTaken.j0 k l0 l1 true) = some r := by rw [if_pos rfl] at H; exact H
        clear H
        have H := H1
        clear H1
        have H' := Aside0.mk H
        clear H
        go_wp2_with (first | (go_at_call 18; (with_reducible refine (laws_f6big.calls _ _ l0 true _ ?side1 ?side2 A4.out).mono ?_); (case side1 => repeat (first | exact (Kd.C_below HR0.out HB.out) | (with_reducible refine Kd.C_alloc ?_ _) | (with_reducible refine Kd.C_drewN ?_ _) | (with_reducible refine Kd.C_drew ?_))); (case side2 => exact HC0.out); rintro e w' ⟨rfl, ⟨nd, rfl⟩⟩; (try first | exact ⟨rfl, _, World.drewN_drewN _ _ _⟩ | exact ⟨rfl, _, Eq.trans (World.drewN_drewN _ _ _) (congrArg (World.drewN _) (Nat.add_assoc _ _ _))⟩)))
        repeat (go_quiet (first | (go_at_call 18; (with_reducible refine (laws_f6big.calls _ _ l0 true _ ?side1 ?side2 A4.out).mono ?_); (case side1 => repeat (first | exact (Kd.C_below HR0.out HB.out) | (with_reducible refine Kd.C_alloc ?_ _) | (with_reducible refine Kd.C_drewN ?_ _) | (with_reducible refine Kd.C_drew ?_))); (case side2 => exact HC0.out); rintro e w' ⟨rfl, ⟨nd, rfl⟩⟩; (try first | exact ⟨rfl, _, World.drewN_drewN _ _ _⟩ | exact ⟨rfl, _, Eq.trans (World.drewN_drewN _ _ _) (congrArg (World.drewN _) (Nat.add_assoc _ _ _))⟩))); try go_wp2_with (first | (go_at_call 18; (with_reducible refine (laws_f6big.calls _ _ l0 true _ ?side1 ?side2 A4.out).mono ?_); (case side1 => repeat (first | exact (Kd.C_below HR0.out HB.out) | (with_reducible refine Kd.C_alloc ?_ _) | (with_reducible refine Kd.C_drewN ?_ _) | (with_reducible refine Kd.C_drew ?_))); (case side2 => exact HC0.out); rintro e w' ⟨rfl, ⟨nd, rfl⟩⟩; (try first | exact ⟨rfl, _, World.drewN_drewN _ _ _⟩ | exact ⟨rfl, _, Eq.trans (World.drewN_drewN _ _ _) (congrArg (World.drewN _) (Nat.add_assoc _ _ _))⟩))))
        go_meet
        case rel => exact ⟨_, (true), (by first | rfl | (simp; done) | (simp [*]; done)), H', ⟨by first | omega | exact Nat.le_refl _⟩, ⟨by repeat (first | (with_reducible first | exact HB.out | apply below_alloc | apply pw_below_drewN | apply below_drew1) | exact HB.out)⟩⟩
      · replace c5 := Bool.eq_false_iff.mpr c5
        subst c5
        have H1 : ((laws_f6big.f l1).bind fun t272 => (laws_FnHeapsTaken.j0 k l0 l1 t272)) = some r := by rw [if_neg (show ¬ (false = true) by decide)] at H; exact H
        clear H
        have H := H1
        clear H1
        replace H := Option.bind_eq_some_iff.mp H
        obtain ⟨t272, A60, H⟩ := H
        replace H : (laws_FnHeapsTaken.j0 k l0 l1 t272) = some r := H
        have A6 := Aside0.mk A60
        clear A60
        have H' := Aside0.mk H
        clear H
        go_wp2_with (first | (go_at_call 18; (with_reducible refine (laws_f6big.calls _ _ l0 false _ ?side1 ?side2 A4.out).mono ?_); (case side1 => repeat (first | exact (Kd.C_below HR0.out HB.out) | (with_reducible refine Kd.C_alloc ?_ _) | (with_reducible refine Kd.C_drewN ?_ _) | (with_reducible refine Kd.C_drew ?_))); (case side2 => exact HC0.out); rintro e w' ⟨rfl, ⟨nd, rfl⟩⟩; (try first | exact ⟨rfl, _, World.drewN_drewN _ _ _⟩ | exact ⟨rfl, _, Eq.trans (World.drewN_drewN _ _ _) (congrArg (World.drewN _) (Nat.add_assoc _ _ _))⟩)) | (go_at_call 18; (with_reducible refine (laws_f6big.calls _ _ l1 t272 _ ?side1 ?side2 A6.out).mono ?_); (case side1 => repeat (first | exact (Kd.C_below HR1.out (by repeat (first | (with_reducible first | exact HB.out | apply below_alloc | apply pw_below_drewN | apply below_drew1) | exact HB.out))) | (with_reducible refine Kd.C_alloc ?_ _) | (with_reducible refine Kd.C_drewN ?_ _) | (with_reducible refine Kd.C_drew ?_))); (case side2 => exact HC1.out); rintro e w' ⟨rfl, ⟨nd, rfl⟩⟩; (try first | exact ⟨rfl, _, World.drewN_drewN _ _ _⟩ | exact ⟨rfl, _, Eq.trans (World.drewN_drewN _ _ _) (congrArg (World.drewN _) (Nat.add_assoc _ _ _))⟩)))
        repeat (go_quiet (first | (go_at_call 18; (with_reducible refine (laws_f6big.calls _ _ l0 false _ ?side1 ?side2 A4.out).mono ?_); (case side1 => repeat (first | exact (Kd.C_below HR0.out HB.out) | (with_reducible refine Kd.C_alloc ?_ _) | (with_reducible refine Kd.C_drewN ?_ _) | (with_reducible refine Kd.C_drew ?_))); (case side2 => exact HC0.out); rintro e w' ⟨rfl, ⟨nd, rfl⟩⟩; (try first | exact ⟨rfl, _, World.drewN_drewN _ _ _⟩ | exact ⟨rfl, _, Eq.trans (World.drewN_drewN _ _ _) (congrArg (World.drewN _) (Nat.add_assoc _ _ _))⟩)) | (go_at_call 18; (with_reducible refine (laws_f6big.calls _ _ l1 t272 _ ?side1 ?side2 A6.out).mono ?_); (case side1 => repeat (first | exact (Kd.C_below HR1.out (by repeat (first | (with_reducible first | exact HB.out | apply below_alloc | apply pw_below_drewN | apply below_drew1) | exact HB.out))) | (with_reducible refine Kd.C_alloc ?_ _) | (with_reducible refine Kd.C_drewN ?_ _) | (with_reducible refine Kd.C_drew ?_))); (case side2 => exact HC1.out); rintro e w' ⟨rfl, ⟨nd, rfl⟩⟩; (try first | exact ⟨rfl, _, World.drewN_drewN _ _ _⟩ | exact ⟨rfl, _, Eq.trans (World.drewN_drewN _ _ _) (congrArg (World.drewN _) (Nat.add_assoc _ _ _))⟩))); try go_wp2_with (first | (go_at_call 18; (with_reducible refine (laws_f6big.calls _ _ l0 false _ ?side1 ?side2 A4.out).mono ?_); (case side1 => repeat (first | exact (Kd.C_below HR0.out HB.out) | (with_reducible refine Kd.C_alloc ?_ _) | (with_reducible refine Kd.C_drewN ?_ _) | (with_reducible refine Kd.C_drew ?_))); (case side2 => exact HC0.out); rintro e w' ⟨rfl, ⟨nd, rfl⟩⟩; (try first | exact ⟨rfl, _, World.drewN_drewN _ _ _⟩ | exact ⟨rfl, _, Eq.trans (World.drewN_drewN _ _ _) (congrArg (World.drewN _) (Nat.add_assoc _ _ _))⟩)) | (go_at_call 18; (with_reducible refine (laws_f6big.calls _ _ l1 t272 _ ?side1 ?side2 A6.out).mono ?_); (case side1 => repeat (first | exact (Kd.C_below HR1.out (by repeat (first | (with_reducible first | exact HB.out | apply below_alloc | apply pw_below_drewN | apply below_drew1) | exact HB.out))) | (with_reducible refine Kd.C_alloc ?_ _) | (with_reducible refine Kd.C_drewN ?_ _) | (with_reducible refine Kd.C_drew ?_))); (case side2 => exact HC1.out); rintro e w' ⟨rfl, ⟨nd, rfl⟩⟩; (try first | exact ⟨rfl, _, World.drewN_drewN _ _ _⟩ | exact ⟨rfl, _, Eq.trans (World.drewN_drewN _ _ _) (congrArg (World.drewN _) (Nat.add_assoc _ _ _))⟩))))
        go_meet
        case rel => exact ⟨_, (t272), (by first | rfl | (simp; done) | (simp [*]; done)), H', ⟨by first | omega | exact Nat.le_refl _⟩, ⟨by repeat (first | (with_reducible first | exact HB.out | apply below_alloc | apply pw_below_drewN | apply below_drew1) | exact HB.out)⟩⟩
  case rest =>
    as_aux_lemma =>
      clear HC3
      try clear c1
      try clear p2
      try clear c4
      try clear c5
      obtain ⟨kq, x35_2, rfl, HA, HJ2, HB⟩ := hcut
      cases kq with
      | zero => exact absurd HA.out (by simp [laws_FnHeapsTaken.j0])
      | succ kj2 =>
        have H := HA.out
        clear HA
        simp only [laws_FnHeapsTaken.j0] at H
        by_cases c7 : x35_2 = true
        · subst c7
          have H1 : (some true) = some r := by rw [if_pos rfl] at H; exact H
          clear H
          have H := H1
          clear H1
          obtain rfl := Option.some.inj H
          go_wp2
          repeat (go_quiet (fail); try go_wp2)
          go_ret
          exact ⟨by first | rfl | (simp [errW_none, errW_some] <;> rfl) | (simp [*, errW_none, errW_some] <;> rfl), by repeat (first | (with_reducible first | exact HB.out | apply below_alloc | apply pw_below_drewN | apply below_drew1) | exact HB.out)⟩
        · replace c7 := Bool.eq_false_iff.mpr c7
          subst c7
          have H1 : ((spec_P6Takes.f l0).bind fun t273 => ((spec_P6Heaps.f kj2 l1).bind fun t274 => ((impl_TakeValues.f kj2 t273 200).bind fun bt277 => ((spec_TakeValues.f kj2 t273 200).bind fun bt281 => ((impl_TakeMoves.f kj2 t273 t274).bind fun bt285 => ((spec_TakeMoves.f kj2 t273 t274).bind fun bt289 => ((impl_TakePeriod.f kj2 t273).bind fun bt293 => ((spec_TakePeriod.f kj2 t273).bind fun bt296 => (if bt277.2 = bt281.2 then (if bt277.2 = 0 then ((spec_SameNims.f kj2 bt277.1 bt281.1).bind fun t299 => (if t299 = true then (if (bt281.1.length : Int) = 201 then (if bt285.2 = bt289.2 then (if bt285.2 = 0 then ((spec_SamePairs.f kj2 bt285.1 bt289.1).bind fun t300 => (if t300 = true then (if bt293.2.2 = bt296.2.2 then (if bt293.1 = bt296.1 then (laws_FnHeapsTaken.j1 kj2 t273 t274 bt281.1 bt289.1 bt293.2.2 bt296.1 bt296.2.1 (bt293.2.1 != bt296.2.1)) else (laws_FnHeapsTaken.j1 kj2 t273 t274 bt281.1 bt289.1 bt293.2.2 bt296.1 bt296.2.1 true)) else (laws_FnHeapsTaken.j1 kj2 t273 t274 bt281.1 bt289.1 bt293.2.2 bt296.1 bt296.2.1 true)) else (laws_FnHeapsTaken.j1 kj2 t273 t274 bt281.1 bt289.1 bt293.2.2 bt296.1 bt296.2.1 true))) else (laws_FnHeapsTaken.j1 kj2 t273 t274 bt281.1 bt289.1 bt293.2.2 bt296.1 bt296.2.1 true)) else (laws_FnHeapsTaken.j1 kj2 t273 t274 bt281.1 bt289.1 bt293.2.2 bt296.1 bt296.2.1 true)) else (laws_FnHeapsTaken.j1 kj2 t273 t274 bt281.1 bt289.1 bt293.2.2 bt296.1 bt296.2.1 true)) else (laws_FnHeapsTaken.j1 kj2 t273 t274 bt281.1 bt289.1 bt293.2.2 bt296.1 bt296.2.1 true))) else (laws_FnHeapsTaken.j1 kj2 t273 t274 bt281.1 bt289.1 bt293.2.2 bt296.1 bt296.2.1 true)) else (laws_FnHeapsTaken.j1 kj2 t273 t274 bt281.1 bt289.1 bt293.2.2 bt296.1 bt296.2.1 true)))))))))) = some r := by rw [if_neg (show ¬ (false = true) by decide)] at H; exact H
          clear H
          have H := H1
          clear H1
          replace H := Option.bind_eq_some_iff.mp H
          obtain ⟨t273, A80, H⟩ := H
          replace H : ((spec_P6Heaps.f kj2 l1).bind fun t274 => ((impl_TakeValues.f kj2 t273 200).bind fun bt277 => ((spec_TakeValues.f kj2 t273 200).bind fun bt281 => ((impl_TakeMoves.f kj2 t273 t274).bind fun bt285 => ((spec_TakeMoves.f kj2 t273 t274).bind fun bt289 => ((impl_TakePeriod.f kj2 t273).bind fun bt293 => ((spec_TakePeriod.f kj2 t273).bind fun bt296 => (if bt277.2 = bt281.2 then (if bt277.2 = 0 then ((spec_SameNims.f kj2 bt277.1 bt281.1).bind fun t299 => (if t299 = true then (if (bt281.1.length : Int) = 201 then (if bt285.2 = bt289.2 then (if bt285.2 = 0 then ((spec_SamePairs.f kj2 bt285.1 bt289.1).bind fun t300 => (if t300 = true then (if bt293.2.2 = bt296.2.2 then (if bt293.1 = bt296.1 then (laws_FnHeapsTaken.j1 kj2 t273 t274 bt281.1 bt289.1 bt293.2.2 bt296.1 bt296.2.1 (bt293.2.1 != bt296.2.1)) else (laws_FnHeapsTaken.j1 kj2 t273 t274 bt281.1 bt289.1 bt293.2.2 bt296.1 bt296.2.1 true)) else (laws_FnHeapsTaken.j1 kj2 t273 t274 bt281.1 bt289.1 bt293.2.2 bt296.1 bt296.2.1 true)) else (laws_FnHeapsTaken.j1 kj2 t273 t274 bt281.1 bt289.1 bt293.2.2 bt296.1 bt296.2.1 true))) else (laws_FnHeapsTaken.j1 kj2 t273 t274 bt281.1 bt289.1 bt293.2.2 bt296.1 bt296.2.1 true)) else (laws_FnHeapsTaken.j1 kj2 t273 t274 bt281.1 bt289.1 bt293.2.2 bt296.1 bt296.2.1 true)) else (laws_FnHeapsTaken.j1 kj2 t273 t274 bt281.1 bt289.1 bt293.2.2 bt296.1 bt296.2.1 true)) else (laws_FnHeapsTaken.j1 kj2 t273 t274 bt281.1 bt289.1 bt293.2.2 bt296.1 bt296.2.1 true))) else (laws_FnHeapsTaken.j1 kj2 t273 t274 bt281.1 bt289.1 bt293.2.2 bt296.1 bt296.2.1 true)) else (laws_FnHeapsTaken.j1 kj2 t273 t274 bt281.1 bt289.1 bt293.2.2 bt296.1 bt296.2.1 true))))))))) = some r := H
          have A8 := Aside0.mk A80
          clear A80
          replace H := Option.bind_eq_some_iff.mp H
          obtain ⟨t274, A90, H⟩ := H
          replace H : ((impl_TakeValues.f kj2 t273 200).bind fun bt277 => ((spec_TakeValues.f kj2 t273 200).bind fun bt281 => ((impl_TakeMoves.f kj2 t273 t274).bind fun bt285 => ((spec_TakeMoves.f kj2 t273 t274).bind fun bt289 => ((impl_TakePeriod.f kj2 t273).bind fun bt293 => ((spec_TakePeriod.f kj2 t273).bind fun bt296 => (if bt277.2 = bt281.2 then (if bt277.2 = 0 then ((spec_SameNims.f kj2 bt277.1 bt281.1).bind fun t299 => (if t299 = true then (if (bt281.1.length : Int) = 201 then (if bt285.2 = bt289.2 then (if bt285.2 = 0 then ((spec_SamePairs.f kj2 bt285.1 bt289.1).bind fun t300 => (if t300 = true then (if bt293.2.2 = bt296.2.2 then (if bt293.1 = bt296.1 then (laws_FnHeapsTaken.j1 kj2 t273 t274 bt281.1 bt289.1 bt293.2.2 bt296.1 bt296.2.1 (bt293.2.1 != bt296.2.1)) else (laws_FnHeapsTaken.j1 kj2 t273 t274 bt281.1 bt289.1 bt293.2.2 bt296.1 bt296.2.1 true)) else (laws_FnHeapsTaken.j1 kj2 t273 t274 bt281.1 bt289.1 bt293.2.2 bt296.1 bt296.2.1 true)) else (laws_FnHeapsTaken.j1 kj2 t273 t274 bt281.1 bt289.1 bt293.2.2 bt296.1 bt296.2.1 true))) else (laws_FnHeapsTaken.j1 kj2 t273 t274 bt281.1 bt289.1 bt293.2.2 bt296.1 bt296.2.1 true)) else (laws_FnHeapsTaken.j1 kj2 t273 t274 bt281.1 bt289.1 bt293.2.2 bt296.1 bt296.2.1 true)) else (laws_FnHeapsTaken.j1 kj2 t273 t274 bt281.1 bt289.1 bt293.2.2 bt296.1 bt296.2.1 true)) else (laws_FnHeapsTaken.j1 kj2 t273 t274 bt281.1 bt289.1 bt293.2.2 bt296.1 bt296.2.1 true))) else (laws_FnHeapsTaken.j1 kj2 t273 t274 bt281.1 bt289.1 bt293.2.2 bt296.1 bt296.2.1 true)) else (laws_FnHeapsTaken.j1 kj2 t273 t274 bt281.1 bt289.1 bt293.2.2 bt296.1 bt296.2.1 true)))))))) = some r := H
          have A9 := Aside0.mk A90
          clear A90
          replace H := Option.bind_eq_some_iff.mp H
          obtain ⟨⟨t277, t278⟩, A100, H⟩ := H
          replace H : ((spec_TakeValues.f kj2 t273 200).bind fun bt281 => ((impl_TakeMoves.f kj2 t273 t274).bind fun bt285 => ((spec_TakeMoves.f kj2 t273 t274).bind fun bt289 => ((impl_TakePeriod.f kj2 t273).bind fun bt293 => ((spec_TakePeriod.f kj2 t273).bind fun bt296 => (if t278 = bt281.2 then (if t278 = 0 then ((spec_SameNims.f kj2 t277 bt281.1).bind fun t299 => (if t299 = true then (if (bt281.1.length : Int) = 201 then (if bt285.2 = bt289.2 then (if bt285.2 = 0 then ((spec_SamePairs.f kj2 bt285.1 bt289.1).bind fun t300 => (if t300 = true then (if bt293.2.2 = bt296.2.2 then (if bt293.1 = bt296.1 then (laws_FnHeapsTaken.j1 kj2 t273 t274 bt281.1 bt289.1 bt293.2.2 bt296.1 bt296.2.1 (bt293.2.1 != bt296.2.1)) else (laws_FnHeapsTaken.j1 kj2 t273 t274 bt281.1 bt289.1 bt293.2.2 bt296.1 bt296.2.1 true)) else (laws_FnHeapsTaken.j1 kj2 t273 t274 bt281.1 bt289.1 bt293.2.2 bt296.1 bt296.2.1 true)) else (laws_FnHeapsTaken.j1 kj2 t273 t274 bt281.1 bt289.1 bt293.2.2 bt296.1 bt296.2.1 true))) else (laws_FnHeapsTaken.j1 kj2 t273 t274 bt281.1 bt289.1 bt293.2.2 bt296.1 bt296.2.1 true)) else (laws_FnHeapsTaken.j1 kj2 t273 t274 bt281.1 bt289.1 bt293.2.2 bt296.1 bt296.2.1 true)) else (laws_FnHeapsTaken.j1 kj2 t273 t274 bt281.1 bt289.1 bt293.2.2 bt296.1 bt296.2.1 true)) else (laws_FnHeapsTaken.j1 kj2 t273 t274 bt281.1 bt289.1 bt293.2.2 bt296.1 bt296.2.1 true))) else (laws_FnHeapsTaken.j1 kj2 t273 t274 bt281.1 bt289.1 bt293.2.2 bt296.1 bt296.2.1 true)) else (laws_FnHeapsTaken.j1 kj2 t273 t274 bt281.1 bt289.1 bt293.2.2 bt296.1 bt296.2.1 true))))))) = some r := H
          have A10 := Aside0.mk A100
          clear A100
          replace H := Option.bind_eq_some_iff.mp H
          obtain ⟨⟨t281, t282⟩, A110, H⟩ := H
          replace H : ((impl_TakeMoves.f kj2 t273 t274).bind fun bt285 => ((spec_TakeMoves.f kj2 t273 t274).bind fun bt289 => ((impl_TakePeriod.f kj2 t273).bind fun bt293 => ((spec_TakePeriod.f kj2 t273).bind fun bt296 => (if t278 = t282 then (if t278 = 0 then ((spec_SameNims.f kj2 t277 t281).bind fun t299 => (if t299 = true then (if (t281.length : Int) = 201 then (if bt285.2 = bt289.2 then (if bt285.2 = 0 then ((spec_SamePairs.f kj2 bt285.1 bt289.1).bind fun t300 => (if t300 = true then (if bt293.2.2 = bt296.2.2 then (if bt293.1 = bt296.1 then (laws_FnHeapsTaken.j1 kj2 t273 t274 t281 bt289.1 bt293.2.2 bt296.1 bt296.2.1 (bt293.2.1 != bt296.2.1)) else (laws_FnHeapsTaken.j1 kj2 t273 t274 t281 bt289.1 bt293.2.2 bt296.1 bt296.2.1 true)) else (laws_FnHeapsTaken.j1 kj2 t273 t274 t281 bt289.1 bt293.2.2 bt296.1 bt296.2.1 true)) else (laws_FnHeapsTaken.j1 kj2 t273 t274 t281 bt289.1 bt293.2.2 bt296.1 bt296.2.1 true))) else (laws_FnHeapsTaken.j1 kj2 t273 t274 t281 bt289.1 bt293.2.2 bt296.1 bt296.2.1 true)) else (laws_FnHeapsTaken.j1 kj2 t273 t274 t281 bt289.1 bt293.2.2 bt296.1 bt296.2.1 true)) else (laws_FnHeapsTaken.j1 kj2 t273 t274 t281 bt289.1 bt293.2.2 bt296.1 bt296.2.1 true)) else (laws_FnHeapsTaken.j1 kj2 t273 t274 t281 bt289.1 bt293.2.2 bt296.1 bt296.2.1 true))) else (laws_FnHeapsTaken.j1 kj2 t273 t274 t281 bt289.1 bt293.2.2 bt296.1 bt296.2.1 true)) else (laws_FnHeapsTaken.j1 kj2 t273 t274 t281 bt289.1 bt293.2.2 bt296.1 bt296.2.1 true)))))) = some r := H
          have A11 := Aside0.mk A110
          clear A110
          replace H := Option.bind_eq_some_iff.mp H
          obtain ⟨⟨t285, t286⟩, A120, H⟩ := H
          replace H : ((spec_TakeMoves.f kj2 t273 t274).bind fun bt289 => ((impl_TakePeriod.f kj2 t273).bind fun bt293 => ((spec_TakePeriod.f kj2 t273).bind fun bt296 => (if t278 = t282 then (if t278 = 0 then ((spec_SameNims.f kj2 t277 t281).bind fun t299 => (if t299 = true then (if (t281.length : Int) = 201 then (if t286 = bt289.2 then (if t286 = 0 then ((spec_SamePairs.f kj2 t285 bt289.1).bind fun t300 => (if t300 = true then (if bt293.2.2 = bt296.2.2 then (if bt293.1 = bt296.1 then (laws_FnHeapsTaken.j1 kj2 t273 t274 t281 bt289.1 bt293.2.2 bt296.1 bt296.2.1 (bt293.2.1 != bt296.2.1)) else (laws_FnHeapsTaken.j1 kj2 t273 t274 t281 bt289.1 bt293.2.2 bt296.1 bt296.2.1 true)) else (laws_FnHeapsTaken.j1 kj2 t273 t274 t281 bt289.1 bt293.2.2 bt296.1 bt296.2.1 true)) else (laws_FnHeapsTaken.j1 kj2 t273 t274 t281 bt289.1 bt293.2.2 bt296.1 bt296.2.1 true))) else (laws_FnHeapsTaken.j1 kj2 t273 t274 t281 bt289.1 bt293.2.2 bt296.1 bt296.2.1 true)) else (laws_FnHeapsTaken.j1 kj2 t273 t274 t281 bt289.1 bt293.2.2 bt296.1 bt296.2.1 true)) else (laws_FnHeapsTaken.j1 kj2 t273 t274 t281 bt289.1 bt293.2.2 bt296.1 bt296.2.1 true)) else (laws_FnHeapsTaken.j1 kj2 t273 t274 t281 bt289.1 bt293.2.2 bt296.1 bt296.2.1 true))) else (laws_FnHeapsTaken.j1 kj2 t273 t274 t281 bt289.1 bt293.2.2 bt296.1 bt296.2.1 true)) else (laws_FnHeapsTaken.j1 kj2 t273 t274 t281 bt289.1 bt293.2.2 bt296.1 bt296.2.1 true))))) = some r := H
          have A12 := Aside0.mk A120
          clear A120
          replace H := Option.bind_eq_some_iff.mp H
          obtain ⟨⟨t289, t290⟩, A130, H⟩ := H
          replace H : ((impl_TakePeriod.f kj2 t273).bind fun bt293 => ((spec_TakePeriod.f kj2 t273).bind fun bt296 => (if t278 = t282 then (if t278 = 0 then ((spec_SameNims.f kj2 t277 t281).bind fun t299 => (if t299 = true then (if (t281.length : Int) = 201 then (if t286 = t290 then (if t286 = 0 then ((spec_SamePairs.f kj2 t285 t289).bind fun t300 => (if t300 = true then (if bt293.2.2 = bt296.2.2 then (if bt293.1 = bt296.1 then (laws_FnHeapsTaken.j1 kj2 t273 t274 t281 t289 bt293.2.2 bt296.1 bt296.2.1 (bt293.2.1 != bt296.2.1)) else (laws_FnHeapsTaken.j1 kj2 t273 t274 t281 t289 bt293.2.2 bt296.1 bt296.2.1 true)) else (laws_FnHeapsTaken.j1 kj2 t273 t274 t281 t289 bt293.2.2 bt296.1 bt296.2.1 true)) else (laws_FnHeapsTaken.j1 kj2 t273 t274 t281 t289 bt293.2.2 bt296.1 bt296.2.1 true))) else (laws_FnHeapsTaken.j1 kj2 t273 t274 t281 t289 bt293.2.2 bt296.1 bt296.2.1 true)) else (laws_FnHeapsTaken.j1 kj2 t273 t274 t281 t289 bt293.2.2 bt296.1 bt296.2.1 true)) else (laws_FnHeapsTaken.j1 kj2 t273 t274 t281 t289 bt293.2.2 bt296.1 bt296.2.1 true)) else (laws_FnHeapsTaken.j1 kj2 t273 t274 t281 t289 bt293.2.2 bt296.1 bt296.2.1 true))) else (laws_FnHeapsTaken.j1 kj2 t273 t274 t281 t289 bt293.2.2 bt296.1 bt296.2.1 true)) else (laws_FnHeapsTaken.j1 kj2 t273 t274 t281 t289 bt293.2.2 bt296.1 bt296.2.1 true)))) = some r := H
          have A13 := Aside0.mk A130
          clear A130
          replace H := Option.bind_eq_some_iff.mp H
          obtain ⟨⟨t293, t294, t295⟩, A140, H⟩ := H
          replace H : ((spec_TakePeriod.f kj2 t273).bind fun bt296 => (if t278 = t282 then (if t278 = 0 then ((spec_SameNims.f kj2 t277 t281).bind fun t299 => (if t299 = true then (if (t281.length : Int) = 201 then (if t286 = t290 then (if t286 = 0 then ((spec_SamePairs.f kj2 t285 t289).bind fun t300 => (if t300 = true then (if t295 = bt296.2.2 then (if t293 = bt296.1 then (laws_FnHeapsTaken.j1 kj2 t273 t274 t281 t289 t295 bt296.1 bt296.2.1 (t294 != bt296.2.1)) else (laws_FnHeapsTaken.j1 kj2 t273 t274 t281 t289 t295 bt296.1 bt296.2.1 true)) else (laws_FnHeapsTaken.j1 kj2 t273 t274 t281 t289 t295 bt296.1 bt296.2.1 true)) else (laws_FnHeapsTaken.j1 kj2 t273 t274 t281 t289 t295 bt296.1 bt296.2.1 true))) else (laws_FnHeapsTaken.j1 kj2 t273 t274 t281 t289 t295 bt296.1 bt296.2.1 true)) else (laws_FnHeapsTaken.j1 kj2 t273 t274 t281 t289 t295 bt296.1 bt296.2.1 true)) else (laws_FnHeapsTaken.j1 kj2 t273 t274 t281 t289 t295 bt296.1 bt296.2.1 true)) else (laws_FnHeapsTaken.j1 kj2 t273 t274 t281 t289 t295 bt296.1 bt296.2.1 true))) else (laws_FnHeapsTaken.j1 kj2 t273 t274 t281 t289 t295 bt296.1 bt296.2.1 true)) else (laws_FnHeapsTaken.j1 kj2 t273 t274 t281 t289 t295 bt296.1 bt296.2.1 true))) = some r := H
          have A14 := Aside0.mk A140
          clear A140
          replace H := Option.bind_eq_some_iff.mp H
          obtain ⟨⟨t296, t297, t298⟩, A150, H⟩ := H
          replace H : (if t278 = t282 then (if t278 = 0 then ((spec_SameNims.f kj2 t277 t281).bind fun t299 => (if t299 = true then (if (t281.length : Int) = 201 then (if t286 = t290 then (if t286 = 0 then ((spec_SamePairs.f kj2 t285 t289).bind fun t300 => (if t300 = true then (if t295 = t298 then (if t293 = t296 then (laws_FnHeapsTaken.j1 kj2 t273 t274 t281 t289 t295 t296 t297 (t294 != t297)) else (laws_FnHeapsTaken.j1 kj2 t273 t274 t281 t289 t295 t296 t297 true)) else (laws_FnHeapsTaken.j1 kj2 t273 t274 t281 t289 t295 t296 t297 true)) else (laws_FnHeapsTaken.j1 kj2 t273 t274 t281 t289 t295 t296 t297 true))) else (laws_FnHeapsTaken.j1 kj2 t273 t274 t281 t289 t295 t296 t297 true)) else (laws_FnHeapsTaken.j1 kj2 t273 t274 t281 t289 t295 t296 t297 true)) else (laws_FnHeapsTaken.j1 kj2 t273 t274 t281 t289 t295 t296 t297 true)) else (laws_FnHeapsTaken.j1 kj2 t273 t274 t281 t289 t295 t296 t297 true))) else (laws_FnHeapsTaken.j1 kj2 t273 t274 t281 t289 t295 t296 t297 true)) else (laws_FnHeapsTaken.j1 kj2 t273 t274 t281 t289 t295 t296 t297 true)) = some r := H
          have A15 := Aside0.mk A150
          clear A150
          have HC16 := Aside0.mk H
          clear H
          go_upto_region 11 with (first | (go_at_call 19; (with_reducible refine (spec_P6Takes.calls _ _ l0 t273 _ ?side1 ?side2 A8.out).mono ?_); (case side1 => repeat (first | exact (Kd.C_below HR0.out HB.out) | (with_reducible refine Kd.C_alloc ?_ _) | (with_reducible refine Kd.C_drewN ?_ _) | (with_reducible refine Kd.C_drew ?_))); (case side2 => exact HC0.out); rintro e w17 ⟨rfl, hb⟩; have n0_ := Aside0.mk (below_step (by repeat (first | (with_reducible first | exact HB.out | apply below_alloc | apply pw_below_drewN | apply below_drew1) | exact HB.out)) hb); clear HB; have HB := n0_; clear n0_; (try clear hb); (try clear hb2); (try clear hk); (try clear hi)) | (go_at_call 20; (with_reducible refine (spec_P6Heaps.calls kj2 _ _ l1 t274 _ ?side1 ?side2 A9.out).mono ?_); (case side1 => repeat (first | exact (Kd.C_below HR1.out HB.out) | (with_reducible refine Kd.C_alloc ?_ _) | (with_reducible refine Kd.C_drewN ?_ _) | (with_reducible refine Kd.C_drew ?_))); (case side2 => exact HC1.out); rintro e w18 ⟨v275, rfl, ho0, hb⟩; have n0_ := Aside0.mk (Kd.R_lower ho0 (below_size (by repeat (first | (with_reducible first | exact HB.out | apply below_alloc | apply pw_below_drewN | apply below_drew1) | exact HB.out)))); have n1_ := Aside0.mk (below_step (by repeat (first | (with_reducible first | exact HB.out | apply below_alloc | apply pw_below_drewN | apply below_drew1) | exact HB.out)) hb); clear HB; have HO276 := n0_; have HB := n1_; clear n0_ n1_; (try clear hb); (try clear hb2); (try clear hk); (try clear hi); (try clear ho0)) | (go_at_call 21; (with_reducible refine (impl_TakeValues.calls kj2 t273 200 t277 t278 _ A10.out).mono ?_); rintro e w19 ⟨v279, rfl, ho0, hb⟩; have n0_ := Aside0.mk (Kd.R_below (by (with_reducible repeat (first | apply Kd.R_alloc | apply Kd.R_drewN | apply Kd.R_drew)); exact HO276.out) hb); have n1_ := Aside0.mk (Kd.R_lower ho0 (below_size (by repeat (first | (with_reducible first | exact HB.out | apply below_alloc | apply pw_below_drewN | apply below_drew1) | exact HB.out)))); have n2_ := Aside0.mk (below_step (by repeat (first | (with_reducible first | exact HB.out | apply below_alloc | apply pw_below_drewN | apply below_drew1) | exact HB.out)) hb); clear HO276; clear HB; have HO276 := n0_; have HO280 := n1_; have HB := n2_; clear n0_ n1_ n2_; (try clear hb); (try clear hb2); (try clear hk); (try clear hi); (try clear ho0)) | (go_at_call 22; (with_reducible refine (spec_TakeValues.calls kj2 t273 200 t281 t282 _ A11.out).mono ?_); rintro e w20 ⟨v283, rfl, ho0, hb⟩; have n0_ := Aside0.mk (Kd.R_below (by (with_reducible repeat (first | apply Kd.R_alloc | apply Kd.R_drewN | apply Kd.R_drew)); exact HO276.out) hb); have n1_ := Aside0.mk (Kd.R_elder' (by (with_reducible repeat (first | apply Kd.R_alloc | apply Kd.R_drewN | apply Kd.R_drew)); exact HO280.out) (Kd.R_base ho0) hb); have n2_ := Aside0.mk (Kd.R_lower (Kd.R_new' ho0 (Kd.R_lt (by (with_reducible repeat (first | apply Kd.R_alloc | apply Kd.R_drewN | apply Kd.R_drew)); exact HO280.out))) (below_size (by repeat (first | (with_reducible first | exact HB.out | apply below_alloc | apply pw_below_drewN | apply below_drew1) | exact HB.out)))); have n3_ := Aside0.mk (below_step (by repeat (first | (with_reducible first | exact HB.out | apply below_alloc | apply pw_below_drewN | apply below_drew1) | exact HB.out)) hb); clear HO276; clear HO280; clear HB; have HO276 := n0_; have HO280 := n1_; have HO284 := n2_; have HB := n3_; clear n0_ n1_ n2_ n3_; (try clear hb); (try clear hb2); (try clear hk); (try clear hi); (try clear ho0); obtain ⟨Ao21, co21, eo21⟩ := Kd.R_slice HO276.out; subst eo21) | (go_at_call 12; (with_reducible refine (impl_TakeMoves.calls kj2 t273 _ _ t274 t285 t286 _ ?side1 ?side2 A12.out).mono ?_); (case side1 => repeat (first | exact (Kd.R_reads' HO276.out).2.2 | (with_reducible refine Kd.C_alloc ?_ _) | (with_reducible refine Kd.C_drewN ?_ _) | (with_reducible refine Kd.C_drew ?_))); (case side2 => exact (Kd.R_reads' HO276.out).2.1); rintro e w22 ⟨v287, rfl, ho0, hb⟩; have n0_ := Aside0.mk (Kd.R_below (by (with_reducible repeat (first | apply Kd.R_alloc | apply Kd.R_drewN | apply Kd.R_drew)); exact HO276.out) hb); have n1_ := Aside0.mk (Kd.R_below (by (with_reducible repeat (first | apply Kd.R_alloc | apply Kd.R_drewN | apply Kd.R_drew)); exact HO280.out) hb); have n2_ := Aside0.mk (Kd.R_below (by (with_reducible repeat (first | apply Kd.R_alloc | apply Kd.R_drewN | apply Kd.R_drew)); exact HO284.out) hb); have n3_ := Aside0.mk (Kd.R_lower ho0 (below_size (by repeat (first | (with_reducible first | exact HB.out | apply below_alloc | apply pw_below_drewN | apply below_drew1) | exact HB.out)))); have n4_ := Aside0.mk (below_step (by repeat (first | (with_reducible first | exact HB.out | apply below_alloc | apply pw_below_drewN | apply below_drew1) | exact HB.out)) hb); clear HO276; clear HO280; clear HO284; clear HB; have HO276 := n0_; have HO280 := n1_; have HO284 := n2_; have HO288 := n3_; have HB := n4_; clear n0_ n1_ n2_ n3_ n4_; (try clear hb); (try clear hb2); (try clear hk); (try clear hi); (try clear ho0)) | (go_at_call 10; (with_reducible refine (spec_TakeMoves.calls kj2 t273 _ _ t274 t289 t290 _ ?side1 ?side2 A13.out).mono ?_); (case side1 => repeat (first | exact (Kd.R_reads' HO276.out).2.2 | (with_reducible refine Kd.C_alloc ?_ _) | (with_reducible refine Kd.C_drewN ?_ _) | (with_reducible refine Kd.C_drew ?_))); (case side2 => exact (Kd.R_reads' HO276.out).2.1); rintro e w23 ⟨v291, rfl, ho0, hb⟩; have n0_ := Aside0.mk (Kd.R_below (by (with_reducible repeat (first | apply Kd.R_alloc | apply Kd.R_drewN | apply Kd.R_drew)); exact HO276.out) hb); have n1_ := Aside0.mk (Kd.R_below (by (with_reducible repeat (first | apply Kd.R_alloc | apply Kd.R_drewN | apply Kd.R_drew)); exact HO280.out) hb); have n2_ := Aside0.mk (Kd.R_below (by (with_reducible repeat (first | apply Kd.R_alloc | apply Kd.R_drewN | apply Kd.R_drew)); exact HO284.out) hb); have n3_ := Aside0.mk (Kd.R_elder' (by (with_reducible repeat (first | apply Kd.R_alloc | apply Kd.R_drewN | apply Kd.R_drew)); exact HO288.out) (Kd.R_base ho0) hb); have n4_ := Aside0.mk (Kd.R_lower (Kd.R_new' ho0 (Kd.R_lt (by (with_reducible repeat (first | apply Kd.R_alloc | apply Kd.R_drewN | apply Kd.R_drew)); exact HO288.out))) (below_size (by repeat (first | (with_reducible first | exact HB.out | apply below_alloc | apply pw_below_drewN | apply below_drew1) | exact HB.out)))); have n5_ := Aside0.mk (below_step (by repeat (first | (with_reducible first | exact HB.out | apply below_alloc | apply pw_below_drewN | apply below_drew1) | exact HB.out)) hb); clear HO276; clear HO280; clear HO284; clear HO288; clear HB; have HO276 := n0_; have HO280 := n1_; have HO284 := n2_; have HO288 := n3_; have HO292 := n4_; have HB := n5_; clear n0_ n1_ n2_ n3_ n4_ n5_; (try clear hb); (try clear hb2); (try clear hk); (try clear hi); (try clear ho0)) | (go_at_call 23; (with_reducible refine (impl_TakePeriod.calls kj2 t273 t293 t294 t295 _ A14.out).mono ?_); rintro e w24 ⟨rfl, hb⟩; have n0_ := Aside0.mk (Kd.R_below (by (with_reducible repeat (first | apply Kd.R_alloc | apply Kd.R_drewN | apply Kd.R_drew)); exact HO276.out) hb); have n1_ := Aside0.mk (Kd.R_below (by (with_reducible repeat (first | apply Kd.R_alloc | apply Kd.R_drewN | apply Kd.R_drew)); exact HO280.out) hb); have n2_ := Aside0.mk (Kd.R_below (by (with_reducible repeat (first | apply Kd.R_alloc | apply Kd.R_drewN | apply Kd.R_drew)); exact HO284.out) hb); have n3_ := Aside0.mk (Kd.R_below (by (with_reducible repeat (first | apply Kd.R_alloc | apply Kd.R_drewN | apply Kd.R_drew)); exact HO288.out) hb); have n4_ := Aside0.mk (Kd.R_below (by (with_reducible repeat (first | apply Kd.R_alloc | apply Kd.R_drewN | apply Kd.R_drew)); exact HO292.out) hb); have n5_ := Aside0.mk (below_step (by repeat (first | (with_reducible first | exact HB.out | apply below_alloc | apply pw_below_drewN | apply below_drew1) | exact HB.out)) hb); clear HO276; clear HO280; clear HO284; clear HO288; clear HO292; clear HB; have HO276 := n0_; have HO280 := n1_; have HO284 := n2_; have HO288 := n3_; have HO292 := n4_; have HB := n5_; clear n0_ n1_ n2_ n3_ n4_ n5_; (try clear hb); (try clear hb2); (try clear hk); (try clear hi)) | (go_at_call 24; (with_reducible refine (spec_TakePeriod.calls kj2 t273 t296 t297 t298 _ A15.out).mono ?_); rintro e w25 ⟨rfl, hb⟩; have n0_ := Aside0.mk (Kd.R_below (by (with_reducible repeat (first | apply Kd.R_alloc | apply Kd.R_drewN | apply Kd.R_drew)); exact HO276.out) hb); have n1_ := Aside0.mk (Kd.R_below (by (with_reducible repeat (first | apply Kd.R_alloc | apply Kd.R_drewN | apply Kd.R_drew)); exact HO280.out) hb); have n2_ := Aside0.mk (Kd.R_below (by (with_reducible repeat (first | apply Kd.R_alloc | apply Kd.R_drewN | apply Kd.R_drew)); exact HO284.out) hb); have n3_ := Aside0.mk (Kd.R_below (by (with_reducible repeat (first | apply Kd.R_alloc | apply Kd.R_drewN | apply Kd.R_drew)); exact HO288.out) hb); have n4_ := Aside0.mk (Kd.R_below (by (with_reducible repeat (first | apply Kd.R_alloc | apply Kd.R_drewN | apply Kd.R_drew)); exact HO292.out) hb); have n5_ := Aside0.mk (below_step (by repeat (first | (with_reducible first | exact HB.out | apply below_alloc | apply pw_below_drewN | apply below_drew1) | exact HB.out)) hb); clear HO276; clear HO280; clear HO284; clear HO288; clear HO292; clear HB; have HO276 := n0_; have HO280 := n1_; have HO284 := n2_; have HO288 := n3_; have HO292 := n4_; have HB := n5_; clear n0_ n1_ n2_ n3_ n4_ n5_; (try clear hb); (try clear hb2); (try clear hk); (try clear hi)))
          repeat (go_quiet (first | (go_at_call 19; (with_reducible refine (spec_P6Takes.calls _ _ l0 t273 _ ?side1 ?side2 A8.out).mono ?_); (case side1 => repeat (first | exact (Kd.C_below HR0.out HB.out) | (with_reducible refine Kd.C_alloc ?_ _) | (with_reducible refine Kd.C_drewN ?_ _) | (with_reducible refine Kd.C_drew ?_))); (case side2 => exact HC0.out); rintro e w17 ⟨rfl, hb⟩; have n0_ := Aside0.mk (below_step (by repeat (first | (with_reducible first | exact HB.out | apply below_alloc | apply pw_below_drewN | apply below_drew1) | exact HB.out)) hb); clear HB; have HB := n0_; clear n0_; (try clear hb); (try clear hb2); (try clear hk); (try clear hi)) | (go_at_call 20; (with_reducible refine (spec_P6Heaps.calls kj2 _ _ l1 t274 _ ?side1 ?side2 A9.out).mono ?_); (case side1 => repeat (first | exact (Kd.C_below HR1.out HB.out) | (with_reducible refine Kd.C_alloc ?_ _) | (with_reducible refine Kd.C_drewN ?_ _) | (with_reducible refine Kd.C_drew ?_))); (case side2 => exact HC1.out); rintro e w18 ⟨v275, rfl, ho0, hb⟩; have n0_ := Aside0.mk (Kd.R_lower ho0 (below_size (by repeat (first | (with_reducible first | exact HB.out | apply below_alloc | apply pw_below_drewN | apply below_drew1) | exact HB.out)))); have n1_ := Aside0.mk (below_step (by repeat (first | (with_reducible first | exact HB.out | apply below_alloc | apply pw_below_drewN | apply below_drew1) | exact HB.out)) hb); clear HB; have HO276 := n0_; have HB := n1_; clear n0_ n1_; (try clear hb); (try clear hb2); (try clear hk); (try clear hi); (try clear ho0)) | (go_at_call 21; (with_reducible refine (impl_TakeValues.calls kj2 t273 200 t277 t278 _ A10.out).mono ?_); rintro e w19 ⟨v279, rfl, ho0, hb⟩; have n0_ := Aside0.mk (Kd.R_below (by (with_reducible repeat (first | apply Kd.R_alloc | apply Kd.R_drewN | apply Kd.R_drew)); exact HO276.out) hb); have n1_ := Aside0.mk (Kd.R_lower ho0 (below_size (by repeat (first | (with_reducible first | exact HB.out | apply below_alloc | apply pw_below_drewN | apply below_drew1) | exact HB.out)))); have n2_ := Aside0.mk (below_step (by repeat (first | (with_reducible first | exact HB.out | apply below_alloc | apply pw_below_drewN | apply below_drew1) | exact HB.out)) hb); clear HO276; clear HB; have HO276 := n0_; have HO280 := n1_; have HB := n2_; clear n0_ n1_ n2_; (try clear hb); (try clear hb2); (try clear hk); (try clear hi); (try clear ho0)) | (go_at_call 22; (with_reducible refine (spec_TakeValues.calls kj2 t273 200 t281 t282 _ A11.out).mono ?_); rintro e w20 ⟨v283, rfl, ho0, hb⟩; have n0_ := Aside0.mk (Kd.R_below (by (with_reducible repeat (first | apply Kd.R_alloc | apply Kd.R_drewN | apply Kd.R_drew)); exact HO276.out) hb); have n1_ := Aside0.mk (Kd.R_elder' (by (with_reducible repeat (first | apply Kd.R_alloc | apply Kd.R_drewN | apply Kd.R_drew)); exact HO280.out) (Kd.R_base ho0) hb); have n2_ := Aside0.mk (Kd.R_lower (Kd.R_new' ho0 (Kd.R_lt (by (with_reducible repeat (first | apply Kd.R_alloc | apply Kd.R_drewN | apply Kd.R_drew)); exact HO280.out))) (below_size (by repeat (first | (with_reducible first | exact HB.out | apply below_alloc | apply pw_below_drewN | apply below_drew1) | exact HB.out)))); have n3_ := Aside0.mk (below_step (by repeat (first | (with_reducible first | exact HB.out | apply below_alloc | apply pw_below_drewN | apply below_drew1) | exact HB.out)) hb); clear HO276; clear HO280; clear HB; have HO276 := n0_; have HO280 := n1_; have HO284 := n2_; have HB := n3_; clear n0_ n1_ n2_ n3_; (try clear hb); (try clear hb2); (try clear hk); (try clear hi); (try clear ho0); obtain ⟨Ao21, co21, eo21⟩ := Kd.R_slice HO276.out; subst eo21) | (go_at_call 12; (with_reducible refine (impl_TakeMoves.calls kj2 t273 _ _ t274 t285 t286 _ ?side1 ?side2 A12.out).mono ?_); (case side1 => repeat (first | exact (Kd.R_reads' HO276.out).2.2 | (with_reducible refine Kd.C_alloc ?_ _) | (with_reducible refine Kd.C_drewN ?_ _) | (with_reducible refine Kd.C_drew ?_))); (case side2 => exact (Kd.R_reads' HO276.out).2.1); rintro e w22 ⟨v287, rfl, ho0, hb⟩; have n0_ := Aside0.mk (Kd.R_below (by (with_reducible repeat (first | apply Kd.R_alloc | apply Kd.R_drewN | apply Kd.R_drew)); exact HO276.out) hb); have n1_ := Aside0.mk (Kd.R_below (by (with_reducible repeat (first | apply Kd.R_alloc | apply Kd.R_drewN | apply Kd.R_drew)); exact HO280.out) hb); have n2_ := Aside0.mk (Kd.R_below (by (with_reducible repeat (first | apply Kd.R_alloc | apply Kd.R_drewN | apply Kd.R_drew)); exact HO284.out) hb); have n3_ := Aside0.mk (Kd.R_lower ho0 (below_size (by repeat (first | (with_reducible first | exact HB.out | apply below_alloc | apply pw_below_drewN | apply below_drew1) | exact HB.out)))); have n4_ := Aside0.mk (below_step (by repeat (first | (with_reducible first | exact HB.out | apply below_alloc | apply pw_below_drewN | apply below_drew1) | exact HB.out)) hb); clear HO276; clear HO280; clear HO284; clear HB; have HO276 := n0_; have HO280 := n1_; have HO284 := n2_; have HO288 := n3_; have HB := n4_; clear n0_ n1_ n2_ n3_ n4_; (try clear hb); (try clear hb2); (try clear hk); (try clear hi); (try clear ho0)) | (go_at_call 10; (with_reducible refine (spec_TakeMoves.calls kj2 t273 _ _ t274 t289 t290 _ ?side1 ?side2 A13.out).mono ?_); (case side1 => repeat (first | exact (Kd.R_reads' HO276.out).2.2 | (with_reducible refine Kd.C_alloc ?_ _) | (with_reducible refine Kd.C_drewN ?_ _) | (with_reducible refine Kd.C_drew ?_))); (case side2 => exact (Kd.R_reads' HO276.out).2.1); rintro e w23 ⟨v291, rfl, ho0, hb⟩; have n0_ := Aside0.mk (Kd.R_below (by (with_reducible repeat (first | apply Kd.R_alloc | apply Kd.R_drewN | apply Kd.R_drew)); exact HO276.out) hb); have n1_ := Aside0.mk (Kd.R_below (by (with_reducible repeat (first | apply Kd.R_alloc | apply Kd.R_drewN | apply Kd.R_drew)); exact HO280.out) hb); have n2_ := Aside0.mk (Kd.R_below (by (with_reducible repeat (first | apply Kd.R_alloc | apply Kd.R_drewN | apply Kd.R_drew)); exact HO284.out) hb); have n3_ := Aside0.mk (Kd.R_elder' (by (with_reducible repeat (first | apply Kd.R_alloc | apply Kd.R_drewN | apply Kd.R_drew)); exact HO288.out) (Kd.R_base ho0) hb); have n4_ := Aside0.mk (Kd.R_lower (Kd.R_new' ho0 (Kd.R_lt (by (with_reducible repeat (first | apply Kd.R_alloc | apply Kd.R_drewN | apply Kd.R_drew)); exact HO288.out))) (below_size (by repeat (first | (with_reducible first | exact HB.out | apply below_alloc | apply pw_below_drewN | apply below_drew1) | exact HB.out)))); have n5_ := Aside0.mk (below_step (by repeat (first | (with_reducible first | exact HB.out | apply below_alloc | apply pw_below_drewN | apply below_drew1) | exact HB.out)) hb); clear HO276; clear HO280; clear HO284; clear HO288; clear HB; have HO276 := n0_; have HO280 := n1_; have HO284 := n2_; have HO288 := n3_; have HO292 := n4_; have HB := n5_; clear n0_ n1_ n2_ n3_ n4_ n5_; (try clear hb); (try clear hb2); (try clear hk); (try clear hi); (try clear ho0)) | (go_at_call 23; (with_reducible refine (impl_TakePeriod.calls kj2 t273 t293 t294 t295 _ A14.out).mono ?_); rintro e w24 ⟨rfl, hb⟩; have n0_ := Aside0.mk (Kd.R_below (by (with_reducible repeat (first | apply Kd.R_alloc | apply Kd.R_drewN | apply Kd.R_drew)); exact HO276.out) hb); have n1_ := Aside0.mk (Kd.R_below (by (with_reducible repeat (first | apply Kd.R_alloc | apply Kd.R_drewN | apply Kd.R_drew)); exact HO280.out) hb); have n2_ := Aside0.mk (Kd.R_below (by (with_reducible repeat (first | apply Kd.R_alloc | apply Kd.R_drewN | apply Kd.R_drew)); exact HO284.out) hb); have n3_ := Aside0.mk (Kd.R_below (by (with_reducible repeat (first | apply Kd.R_alloc | apply Kd.R_drewN | apply Kd.R_drew)); exact HO288.out) hb); have n4_ := Aside0.mk (Kd.R_below (by (with_reducible repeat (first | apply Kd.R_alloc | apply Kd.R_drewN | apply Kd.R_drew)); exact HO292.out) hb); have n5_ := Aside0.mk (below_step (by repeat (first | (with_reducible first | exact HB.out | apply below_alloc | apply pw_below_drewN | apply below_drew1) | exact HB.out)) hb); clear HO276; clear HO280; clear HO284; clear HO288; clear HO292; clear HB; have HO276 := n0_; have HO280 := n1_; have HO284 := n2_; have HO288 := n3_; have HO292 := n4_; have HB := n5_; clear n0_ n1_ n2_ n3_ n4_ n5_; (try clear hb); (try clear hb2); (try clear hk); (try clear hi)) | (go_at_call 24; (with_reducible refine (spec_TakePeriod.calls kj2 t273 t296 t297 t298 _ A15.out).mono ?_); rintro e w25 ⟨rfl, hb⟩; have n0_ := Aside0.mk (Kd.R_below (by (with_reducible repeat (first | apply Kd.R_alloc | apply Kd.R_drewN | apply Kd.R_drew)); exact HO276.out) hb); have n1_ := Aside0.mk (Kd.R_below (by (with_reducible repeat (first | apply Kd.R_alloc | apply Kd.R_drewN | apply Kd.R_drew)); exact HO280.out) hb); have n2_ := Aside0.mk (Kd.R_below (by (with_reducible repeat (first | apply Kd.R_alloc | apply Kd.R_drewN | apply Kd.R_drew)); exact HO284.out) hb); have n3_ := Aside0.mk (Kd.R_below (by (with_reducible repeat (first | apply Kd.R_alloc | apply Kd.R_drewN | apply Kd.R_drew)); exact HO288.out) hb); have n4_ := Aside0.mk (Kd.R_below (by (with_reducible repeat (first | apply Kd.R_alloc | apply Kd.R_drewN | apply Kd.R_drew)); exact HO292.out) hb); have n5_ := Aside0.mk (below_step (by repeat (first | (with_reducible first | exact HB.out | apply below_alloc | apply pw_below_drewN | apply below_drew1) | exact HB.out)) hb); clear HO276; clear HO280; clear HO284; clear HO288; clear HO292; clear HB; have HO276 := n0_; have HO280 := n1_; have HO284 := n2_; have HO288 := n3_; have HO292 := n4_; have HB := n5_; clear n0_ n1_ n2_ n3_ n4_ n5_; (try clear hb); (try clear hb2); (try clear hk); (try clear hi))); go_upto_region 11 with (first | (go_at_call 19; (with_reducible refine (spec_P6Takes.calls _ _ l0 t273 _ ?side1 ?side2 A8.out).mono ?_); (case side1 => repeat (first | exact (Kd.C_below HR0.out HB.out) | (with_reducible refine Kd.C_alloc ?_ _) | (with_reducible refine Kd.C_drewN ?_ _) | (with_reducible refine Kd.C_drew ?_))); (case side2 => exact HC0.out); rintro e w17 ⟨rfl, hb⟩; have n0_ := Aside0.mk (below_step (by repeat (first | (with_reducible first | exact HB.out | apply below_alloc | apply pw_below_drewN | apply below_drew1) | exact HB.out)) hb); clear HB; have HB := n0_; clear n0_; (try clear hb); (try clear hb2); (try clear hk); (try clear hi)) | (go_at_call 20; (with_reducible refine (spec_P6Heaps.calls kj2 _ _ l1 t274 _ ?side1 ?side2 A9.out).mono ?_); (case side1 => repeat (first | exact (Kd.C_below HR1.out HB.out) | (with_reducible refine Kd.C_alloc ?_ _) | (with_reducible refine Kd.C_drewN ?_ _) | (with_reducible refine Kd.C_drew ?_))); (case side2 => exact HC1.out); rintro e w18 ⟨v275, rfl, ho0, hb⟩; have n0_ := Aside0.mk (Kd.R_lower ho0 (below_size (by repeat (first | (with_reducible first | exact HB.out | apply below_alloc | apply pw_below_drewN | apply below_drew1) | exact HB.out)))); have n1_ := Aside0.mk (below_step (by repeat (first | (with_reducible first | exact HB.out | apply below_alloc | apply pw_below_drewN | apply below_drew1) | exact HB.out)) hb); clear HB; have HO276 := n0_; have HB := n1_; clear n0_ n1_; (try clear hb); (try clear hb2); (try clear hk); (try clear hi); (try clear ho0)) | (go_at_call 21; (with_reducible refine (impl_TakeValues.calls kj2 t273 200 t277 t278 _ A10.out).mono ?_); rintro e w19 ⟨v279, rfl, ho0, hb⟩; have n0_ := Aside0.mk (Kd.R_below (by (with_reducible repeat (first | apply Kd.R_alloc | apply Kd.R_drewN | apply Kd.R_drew)); exact HO276.out) hb); have n1_ := Aside0.mk (Kd.R_lower ho0 (below_size (by repeat (first | (with_reducible first | exact HB.out | apply below_alloc | apply pw_below_drewN | apply below_drew1) | exact HB.out)))); have n2_ := Aside0.mk (below_step (by repeat (first | (with_reducible first | exact HB.out | apply below_alloc | apply pw_below_drewN | apply below_drew1) | exact HB.out)) hb); clear HO276; clear HB; have HO276 := n0_; have HO280 := n1_; have HB := n2_; clear n0_ n1_ n2_; (try clear hb); (try clear hb2); (try clear hk); (try clear hi); (try clear ho0)) | (go_at_call 22; (with_reducible refine (spec_TakeValues.calls kj2 t273 200 t281 t282 _ A11.out).mono ?_); rintro e w20 ⟨v283, rfl, ho0, hb⟩; have n0_ := Aside0.mk (Kd.R_below (by (with_reducible repeat (first | apply Kd.R_alloc | apply Kd.R_drewN | apply Kd.R_drew)); exact HO276.out) hb); have n1_ := Aside0.mk (Kd.R_elder' (by (with_reducible repeat (first | apply Kd.R_alloc | apply Kd.R_drewN | apply Kd.R_drew)); exact HO280.out) (Kd.R_base ho0) hb); have n2_ := Aside0.mk (Kd.R_lower (Kd.R_new' ho0 (Kd.R_lt (by (with_reducible repeat (first | apply Kd.R_alloc | apply Kd.R_drewN | apply Kd.R_drew)); exact HO280.out))) (below_size (by repeat (first | (with_reducible first | exact HB.out | apply below_alloc | apply pw_below_drewN | apply below_drew1) | exact HB.out)))); have n3_ := Aside0.mk (below_step (by repeat (first | (with_reducible first | exact HB.out | apply below_alloc | apply pw_below_drewN | apply below_drew1) | exact HB.out)) hb); clear HO276; clear HO280; clear HB; have HO276 := n0_; have HO280 := n1_; have HO284 := n2_; have HB := n3_; clear n0_ n1_ n2_ n3_; (try clear hb); (try clear hb2); (try clear hk); (try clear hi); (try clear ho0); obtain ⟨Ao21, co21, eo21⟩ := Kd.R_slice HO276.out; subst eo21) | (go_at_call 12; (with_reducible refine (impl_TakeMoves.calls kj2 t273 _ _ t274 t285 t286 _ ?side1 ?side2 A12.out).mono ?_); (case side1 => repeat (first | exact (Kd.R_reads' HO276.out).2.2 | (with_reducible refine Kd.C_alloc ?_ _) | (with_reducible refine Kd.C_drewN ?_ _) | (with_reducible refine Kd.C_drew ?_))); (case side2 => exact (Kd.R_reads' HO276.out).2.1); rintro e w22 ⟨v287, rfl, ho0, hb⟩; have n0_ := Aside0.mk (Kd.R_below (by (with_reducible repeat (first | apply Kd.R_alloc | apply Kd.R_drewN | apply Kd.R_drew)); exact HO276.out) hb); have n1_ := Aside0.mk (Kd.R_below (by (with_reducible repeat (first | apply Kd.R_alloc | apply Kd.R_drewN | apply Kd.R_drew)); exact HO280.out) hb); have n2_ := Aside0.mk (Kd.R_below (by (with_reducible repeat (first | apply Kd.R_alloc | apply Kd.R_drewN | apply Kd.R_drew)); exact HO284.out) hb); have n3_ := Aside0.mk (Kd.R_lower ho0 (below_size (by repeat (first | (with_reducible first | exact HB.out | apply below_alloc | apply pw_below_drewN | apply below_drew1) | exact HB.out)))); have n4_ := Aside0.mk (below_step (by repeat (first | (with_reducible first | exact HB.out | apply below_alloc | apply pw_below_drewN | apply below_drew1) | exact HB.out)) hb); clear HO276; clear HO280; clear HO284; clear HB; have HO276 := n0_; have HO280 := n1_; have HO284 := n2_; have HO288 := n3_; have HB := n4_; clear n0_ n1_ n2_ n3_ n4_; (try clear hb); (try clear hb2); (try clear hk); (try clear hi); (try clear ho0)) | (go_at_call 10; (with_reducible refine (spec_TakeMoves.calls kj2 t273 _ _ t274 t289 t290 _ ?side1 ?side2 A13.out).mono ?_); (case side1 => repeat (first | exact (Kd.R_reads' HO276.out).2.2 | (with_reducible refine Kd.C_alloc ?_ _) | (with_reducible refine Kd.C_drewN ?_ _) | (with_reducible refine Kd.C_drew ?_))); (case side2 => exact (Kd.R_reads' HO276.out).2.1); rintro e w23 ⟨v291, rfl, ho0, hb⟩; have n0_ := Aside0.mk (Kd.R_below (by (with_reducible repeat (first | apply Kd.R_alloc | apply Kd.R_drewN | apply Kd.R_drew)); exact HO276.out) hb); have n1_ := Aside0.mk (Kd.R_below (by (with_reducible repeat (first | apply Kd.R_alloc | apply Kd.R_drewN | apply Kd.R_drew)); exact HO280.out) hb); have n2_ := Aside0.mk (Kd.R_below (by (with_reducible repeat (first | apply Kd.R_alloc | apply Kd.R_drewN | apply Kd.R_drew)); exact HO284.out) hb); have n3_ := Aside0.mk (Kd.R_elder' (by (with_reducible repeat (first | apply Kd.R_alloc | apply Kd.R_drewN | apply Kd.R_drew)); exact HO288.out) (Kd.R_base ho0) hb); have n4_ := Aside0.mk (Kd.R_lower (Kd.R_new' ho0 (Kd.R_lt (by (with_reducible repeat (first | apply Kd.R_alloc | apply Kd.R_drewN | apply Kd.R_drew)); exact HO288.out))) (below_size (by repeat (first | (with_reducible first | exact HB.out | apply below_alloc | apply pw_below_drewN | apply below_drew1) | exact HB.out)))); have n5_ := Aside0.mk (below_step (by repeat (first | (with_reducible first | exact HB.out | apply below_alloc | apply pw_below_drewN | apply below_drew1) | exact HB.out)) hb); clear HO276; clear HO280; clear HO284; clear HO288; clear HB; have HO276 := n0_; have HO280 := n1_; have HO284 := n2_; have HO288 := n3_; have HO292 := n4_; have HB := n5_; clear n0_ n1_ n2_ n3_ n4_ n5_; (try clear hb); (try clear hb2); (try clear hk); (try clear hi); (try clear ho0)) | (go_at_call 23; (with_reducible refine (impl_TakePeriod.calls kj2 t273 t293 t294 t295 _ A14.out).mono ?_); rintro e w24 ⟨rfl, hb⟩; have n0_ := Aside0.mk (Kd.R_below (by (with_reducible repeat (first | apply Kd.R_alloc | apply Kd.R_drewN | apply Kd.R_drew)); exact HO276.out) hb); have n1_ := Aside0.mk (Kd.R_below (by (with_reducible repeat (first | apply Kd.R_alloc | apply Kd.R_drewN | apply Kd.R_drew)); exact HO280.out) hb); have n2_ := Aside0.mk (Kd.R_below (by (with_reducible repeat (first | apply Kd.R_alloc | apply Kd.R_drewN | apply Kd.R_drew)); exact HO284.out) hb); have n3_ := Aside0.mk (Kd.R_below (by (with_reducible repeat (first | apply Kd.R_alloc | apply Kd.R_drewN | apply Kd.R_drew)); exact HO288.out) hb); have n4_ := Aside0.mk (Kd.R_below (by (with_reducible repeat (first | apply Kd.R_alloc | apply Kd.R_drewN | apply Kd.R_drew)); exact HO292.out) hb); have n5_ := Aside0.mk (below_step (by repeat (first | (with_reducible first | exact HB.out | apply below_alloc | apply pw_below_drewN | apply below_drew1) | exact HB.out)) hb); clear HO276; clear HO280; clear HO284; clear HO288; clear HO292; clear HB; have HO276 := n0_; have HO280 := n1_; have HO284 := n2_; have HO288 := n3_; have HO292 := n4_; have HB := n5_; clear n0_ n1_ n2_ n3_ n4_ n5_; (try clear hb); (try clear hb2); (try clear hk); (try clear hi)) | (go_at_call 24; (with_reducible refine (spec_TakePeriod.calls kj2 t273 t296 t297 t298 _ A15.out).mono ?_); rintro e w25 ⟨rfl, hb⟩; have n0_ := Aside0.mk (Kd.R_below (by (with_reducible repeat (first | apply Kd.R_alloc | apply Kd.R_drewN | apply Kd.R_drew)); exact HO276.out) hb); have n1_ := Aside0.mk (Kd.R_below (by (with_reducible repeat (first | apply Kd.R_alloc | apply Kd.R_drewN | apply Kd.R_drew)); exact HO280.out) hb); have n2_ := Aside0.mk (Kd.R_below (by (with_reducible repeat (first | apply Kd.R_alloc | apply Kd.R_drewN | apply Kd.R_drew)); exact HO284.out) hb); have n3_ := Aside0.mk (Kd.R_below (by (with_reducible repeat (first | apply Kd.R_alloc | apply Kd.R_drewN | apply Kd.R_drew)); exact HO288.out) hb); have n4_ := Aside0.mk (Kd.R_below (by (with_reducible repeat (first | apply Kd.R_alloc | apply Kd.R_drewN | apply Kd.R_drew)); exact HO292.out) hb); have n5_ := Aside0.mk (below_step (by repeat (first | (with_reducible first | exact HB.out | apply below_alloc | apply pw_below_drewN | apply below_drew1) | exact HB.out)) hb); clear HO276; clear HO280; clear HO284; clear HO288; clear HO292; clear HB; have HO276 := n0_; have HO280 := n1_; have HO284 := n2_; have HO288 := n3_; have HO292 := n4_; have HB := n5_; clear n0_ n1_ n2_ n3_ n4_ n5_; (try clear hb); (try clear hb2); (try clear hk); (try clear hi))))
          (try simp only [Act.put, List.setIfInBounds_toArray, List.set_cons_zero, List.set_cons_succ])
          go_cut [121] (fun v121 wc => ∃ (kq : Nat) (x121_15 : Bool), v121 = .bool x121_15 ∧ Aside0 (laws_FnHeapsTaken.j1 kq t273 t274 t281 t289 t295 t296 t297 x121_15 = some r) ∧ Aside0 (kq ≤ kj2) ∧ Aside0 (Kd.R (Kd.int .i64) 2 wc w.heap.size (fun _ => True) (.slice Ao21 t274.length co21) t274) ∧ Aside0 (Kd.R (Kd.int .u16) 44 wc w.heap.size (fun _ => True) v283 t281) ∧ Aside0 (Kd.R k46 46 wc w.heap.size (fun _ => True) v291 t289) ∧ Aside0 (Below w.heap.size w wc))
          case first =>
            as_aux_lemma =>
              have H := HC16.out
              clear HC16
              by_cases c26 : t278 = t282
              · rw [if_pos c26] at H
                have c26b0 : (t278 == t282) = true := beq_iff_eq.mpr c26
                have c26b1 : (t278 != t282) = false := bne_eq_false_iff_eq.mpr c26
                clear c26
                (first | rw [c26b0] | (simp only [i64_w, i32_w]; rw [c26b0]) | skip)
                by_cases c27 : t278 = 0
                · rw [if_pos c27] at H
                  have c27b0 : (t278 == 0) = true := beq_iff_eq.mpr c27
                  have c27b1 : (t278 != 0) = false := bne_eq_false_iff_eq.mpr c27
                  clear c27
                  replace H := Option.bind_eq_some_iff.mp H
                  obtain ⟨t299, A280, H⟩ := H
                  replace H : (if t299 = true then (if (t281.length : Int) = 201 then (if t286 = t290 then (if t286 = 0 then ((spec_SamePairs.f kj2 t285 t289).bind fun t300 => (if t300 = true then (if t295 = t298 then (if t293 = t296 then (laws_FnHeapsTaken.j1 kj2 t273 t274 t281 t289 t295 t296 t297 (t294 != t297)) else (laws_FnHeapsTaken.j1 kj2 t273 t274 t281 t289 t295 t296 t297 true)) else (laws_FnHeapsTaken.j1 kj2 t273 t274 t281 t289 t295 t296 t297 true)) else (laws_FnHeapsTaken.j1 kj2 t273 t274 t281 t289 t295 t296 t297 true))) else (laws_FnHeapsTaken.j1 kj2 t273 t274 t281 t289 t295 t296 t297 true)) else (laws_FnHeapsTaken.j1 kj2 t273 t274 t281 t289 t295 t296 t297 true)) else (laws_FnHeapsTaken.j1 kj2 t273 t274 t281 t289 t295 t296 t297 true)) else (laws_FnHeapsTaken.j1 kj2 t273 t274 t281 t289 t295 t296 t297 true)) = some r := H
                  have A28 := Aside0.mk A280
                  clear A280
                  by_cases c29 : t299 = true
                  · subst c29
                    have H1 : (if (t281.length : Int) = 201 then (if t286 = t290 then (if t286 = 0 then ((spec_SamePairs.f kj2 t285 t289).bind fun t300 => (if t300 = true then (if t295 = t298 then (if t293 = t296 then (laws_FnHeapsTaken.j1 kj2 t273 t274 t281 t289 t295 t296 t297 (t294 != t297)) else (laws_FnHeapsTaken.j1 kj2 t273 t274 t281 t289 t295 t296 t297 true)) else (laws_FnHeapsTaken.j1 kj2 t273 t274 t281 t289 t295 t296 t297 true)) else (laws_FnHeapsTaken.j1 kj2 t273 t274 t281 t289 t295 t296 t297 true))) else (laws_FnHeapsTaken.j1 kj2 t273 t274 t281 t289 t295 t296 t297 true)) else (laws_FnHeapsTaken.j1 kj2 t273 t274 t281 t289 t295 t296 t297 true)) else (laws_FnHeapsTaken.j1 kj2 t273 t274 t281 t289 t295 t296 t297 true)) = some r := by rw [if_pos rfl] at H; exact H
                    clear H
                    have H := H1
                    clear H1
                    by_cases c30 : (t281.length : Int) = 201
                    · rw [if_pos c30] at H
                      have c30b0 : ((t281.length : Int) == 201) = true := beq_iff_eq.mpr c30
                      have c30b1 : ((t281.length : Int) != 201) = false := bne_eq_false_iff_eq.mpr c30
                      clear c30
                      by_cases c31 : t286 = t290
                      · rw [if_pos c31] at H
                        have c31b0 : (t286 == t290) = true := beq_iff_eq.mpr c31
                        have c31b1 : (t286 != t290) = false := bne_eq_false_iff_eq.mpr c31
                        clear c31
                        by_cases c32 : t286 = 0
                        · rw [if_pos c32] at H
                          have c32b0 : (t286 == 0) = true := beq_iff_eq.mpr c32
                          have c32b1 : (t286 != 0) = false := bne_eq_false_iff_eq.mpr c32
                          clear c32
                          replace H := Option.bind_eq_some_iff.mp H
                          obtain ⟨t300, A330, H⟩ := H
                          replace H : (if t300 = true then (if t295 = t298 then (if t293 = t296 then (laws_FnHeapsTaken.j1 kj2 t273 t274 t281 t289 t295 t296 t297 (t294 != t297)) else (laws_FnHeapsTaken.j1 kj2 t273 t274 t281 t289 t295 t296 t297 true)) else (laws_FnHeapsTaken.j1 kj2 t273 t274 t281 t289 t295 t296 t297 true)) else (laws_FnHeapsTaken.j1 kj2 t273 t274 t281 t289 t295 t296 t297 true)) = some r := H
                          have A33 := Aside0.mk A330
                          clear A330
                          by_cases c34 : t300 = true
                          · subst c34
                            have H1 : (if t295 = t298 then (if t293 = t296 then (laws_FnHeapsTaken.j1 kj2 t273 t274 t281 t289 t295 t296 t297 (t294 != t297)) else (laws_FnHeapsTaken.j1 kj2 t273 t274 t281 t289 t295 t296 t297 true)) else (laws_FnHeapsTaken.j1 kj2 t273 t274 t281 t289 t295 t296 t297 true)) = some r := by rw [if_pos rfl] at H; exact H
                            clear H
                            have H := H1
                            clear H1
                            by_cases c35 : t295 = t298
                            · rw [if_pos c35] at H
                              have c35b0 : (t295 == t298) = true := beq_iff_eq.mpr c35
                              have c35b1 : (t295 != t298) = false := bne_eq_false_iff_eq.mpr c35
                              clear c35
                              by_cases c36 : t293 = t296
                              · rw [if_pos c36] at H
                                have c36b0 : (t293 == t296) = true := beq_iff_eq.mpr c36
                                have c36b1 : (t293 != t296) = false := bne_eq_false_iff_eq.mpr c36
                                clear c36
                                have H' := Aside0.mk H
                                clear H
                                obtain ⟨Ao37, co37, eo37⟩ := Kd.R_slice HO280.out
                                subst eo37
                                obtain ⟨Ao38, co38, eo38⟩ := Kd.R_slice HO284.out
                                subst eo38
                                go_wp2_with (first | (go_at_call 25; (with_reducible refine (spec_SameNims.calls kj2 _ _ t277 _ _ t281 true _ ?side1 ?side2 ?side3 ?side4 A28.out).mono ?_); (case side1 => repeat (first | exact (Kd.R_reads' HO280.out).2.2 | (with_reducible refine Kd.C_alloc ?_ _) | (with_reducible refine Kd.C_drewN ?_ _) | (with_reducible refine Kd.C_drew ?_))); (case side2 => exact (Kd.R_reads' HO280.out).2.1); (case side3 => repeat (first | exact (Kd.R_reads' HO284.out).2.2 | (with_reducible refine Kd.C_alloc ?_ _) | (with_reducible refine Kd.C_drewN ?_ _) | (with_reducible refine Kd.C_drew ?_))); (case side4 => exact (Kd.R_reads' HO284.out).2.1); rintro e w' ⟨rfl, ⟨nd, rfl⟩⟩; (try first | exact ⟨rfl, _, World.drewN_drewN _ _ _⟩ | exact ⟨rfl, _, Eq.trans (World.drewN_drewN _ _ _) (congrArg (World.drewN _) (Nat.add_assoc _ _ _))⟩); obtain ⟨Ao39, co39, eo39⟩ := Kd.R_slice HO288.out; subst eo39; obtain ⟨Ao40, co40, eo40⟩ := Kd.R_slice HO292.out; subst eo40) | (go_at_call 26; (with_reducible refine (spec_SamePairs.calls kj2 _ _ t285 _ _ t289 true _ ?side1 ?side2 ?side3 ?side4 A33.out).mono ?_); (case side1 => repeat (first | exact (Kd.R_reads' HO288.out).2.2 | (with_reducible refine Kd.C_alloc ?_ _) | (with_reducible refine Kd.C_drewN ?_ _) | (with_reducible refine Kd.C_drew ?_))); (case side2 => exact (Kd.R_reads' HO288.out).2.1); (case side3 => repeat (first | exact (Kd.R_reads' HO292.out).2.2 | (with_reducible refine Kd.C_alloc ?_ _) | (with_reducible refine Kd.C_drewN ?_ _) | (with_reducible refine Kd.C_drew ?_))); (case side4 => exact (Kd.R_reads' HO292.out).2.1); rintro e w' ⟨rfl, ⟨nd, rfl⟩⟩; (try first | exact ⟨rfl, _, World.drewN_drewN _ _ _⟩ | exact ⟨rfl, _, Eq.trans (World.drewN_drewN _ _ _) (congrArg (World.drewN _) (Nat.add_assoc _ _ _))⟩)))
                                repeat (go_quiet (first | (go_at_call 25; (with_reducible refine (spec_SameNims.calls kj2 _ _ t277 _ _ t281 true _ ?side1 ?side2 ?side3 ?side4 A28.out).mono ?_); (case side1 => repeat (first | exact (Kd.R_reads' HO280.out).2.2 | (with_reducible refine Kd.C_alloc ?_ _) | (with_reducible refine Kd.C_drewN ?_ _) | (with_reducible refine Kd.C_drew ?_))); (case side2 => exact (Kd.R_reads' HO280.out).2.1); (case side3 => repeat (first | exact (Kd.R_reads' HO284.out).2.2 | (with_reducible refine Kd.C_alloc ?_ _) | (with_reducible refine Kd.C_drewN ?_ _) | (with_reducible refine Kd.C_drew ?_))); (case side4 => exact (Kd.R_reads' HO284.out).2.1); rintro e w' ⟨rfl, ⟨nd, rfl⟩⟩; (try first | exact ⟨rfl, _, World.drewN_drewN _ _ _⟩ | exact ⟨rfl, _, Eq.trans (World.drewN_drewN _ _ _) (congrArg (World.drewN _) (Nat.add_assoc _ _ _))⟩); obtain ⟨Ao39, co39, eo39⟩ := Kd.R_slice HO288.out; subst eo39; obtain ⟨Ao40, co40, eo40⟩ := Kd.R_slice HO292.out; subst eo40) | (go_at_call 26; (with_reducible refine (spec_SamePairs.calls kj2 _ _ t285 _ _ t289 true _ ?side1 ?side2 ?side3 ?side4 A33.out).mono ?_); (case side1 => repeat (first | exact (Kd.R_reads' HO288.out).2.2 | (with_reducible refine Kd.C_alloc ?_ _) | (with_reducible refine Kd.C_drewN ?_ _) | (with_reducible refine Kd.C_drew ?_))); (case side2 => exact (Kd.R_reads' HO288.out).2.1); (case side3 => repeat (first | exact (Kd.R_reads' HO292.out).2.2 | (with_reducible refine Kd.C_alloc ?_ _) | (with_reducible refine Kd.C_drewN ?_ _) | (with_reducible refine Kd.C_drew ?_))); (case side4 => exact (Kd.R_reads' HO292.out).2.1); rintro e w' ⟨rfl, ⟨nd, rfl⟩⟩; (try first | exact ⟨rfl, _, World.drewN_drewN _ _ _⟩ | exact ⟨rfl, _, Eq.trans (World.drewN_drewN _ _ _) (congrArg (World.drewN _) (Nat.add_assoc _ _ _))⟩))); try go_wp2_with (first | (go_at_call 25; (with_reducible refine (spec_SameNims.calls kj2 _ _ t277 _ _ t281 true _ ?side1 ?side2 ?side3 ?side4 A28.out).mono ?_); (case side1 => repeat (first | exact (Kd.R_reads' HO280.out).2.2 | (with_reducible refine Kd.C_alloc ?_ _) | (with_reducible refine Kd.C_drewN ?_ _) | (with_reducible refine Kd.C_drew ?_))); (case side2 => exact (Kd.R_reads' HO280.out).2.1); (case side3 => repeat (first | exact (Kd.R_reads' HO284.out).2.2 | (with_reducible refine Kd.C_alloc ?_ _) | (with_reducible refine Kd.C_drewN ?_ _) | (with_reducible refine Kd.C_drew ?_))); (case side4 => exact (Kd.R_reads' HO284.out).2.1); rintro e w' ⟨rfl, ⟨nd, rfl⟩⟩; (try first | exact ⟨rfl, _, World.drewN_drewN _ _ _⟩ | exact ⟨rfl, _, Eq.trans (World.drewN_drewN _ _ _) (congrArg (World.drewN _) (Nat.add_assoc _ _ _))⟩); obtain ⟨Ao39, co39, eo39⟩ := Kd.R_slice HO288.out; subst eo39; obtain ⟨Ao40, co40, eo40⟩ := Kd.R_slice HO292.out; subst eo40) | (go_at_call 26; (with_reducible refine (spec_SamePairs.calls kj2 _ _ t285 _ _ t289 true _ ?side1 ?side2 ?side3 ?side4 A33.out).mono ?_); (case side1 => repeat (first | exact (Kd.R_reads' HO288.out).2.2 | (with_reducible refine Kd.C_alloc ?_ _) | (with_reducible refine Kd.C_drewN ?_ _) | (with_reducible refine Kd.C_drew ?_))); (case side2 => exact (Kd.R_reads' HO288.out).2.1); (case side3 => repeat (first | exact (Kd.R_reads' HO292.out).2.2 | (with_reducible refine Kd.C_alloc ?_ _) | (with_reducible refine Kd.C_drewN ?_ _) | (with_reducible refine Kd.C_drew ?_))); (case side4 => exact (Kd.R_reads' HO292.out).2.1); rintro e w' ⟨rfl, ⟨nd, rfl⟩⟩; (try first | exact ⟨rfl, _, World.drewN_drewN _ _ _⟩ | exact ⟨rfl, _, Eq.trans (World.drewN_drewN _ _ _) (congrArg (World.drewN _) (Nat.add_assoc _ _ _))⟩))))
                                go_meet
                                case rel => exact ⟨_, ((t294 != t297)), (by first | rfl | (simp; done) | (simp [*]; done)), H', ⟨by have := HJ2.out; first | omega | exact Nat.le_refl _⟩, ⟨by (with_reducible repeat (first | apply Kd.R_alloc | apply Kd.R_drewN | apply Kd.R_drew)); exact HO276.out⟩, ⟨by (with_reducible repeat (first | apply Kd.R_alloc | apply Kd.R_drewN | apply Kd.R_drew)); exact Kd.R_mono HO284.out (fun _ hk => trivial)⟩, ⟨by (with_reducible repeat (first | apply Kd.R_alloc | apply Kd.R_drewN | apply Kd.R_drew)); exact Kd.R_mono HO292.out (fun _ hk => trivial)⟩, ⟨by repeat (first | (with_reducible first | exact HB.out | apply below_alloc | apply pw_below_drewN | apply below_drew1) | exact HB.out)⟩⟩
                              · rw [if_neg c36] at H
                                have c36b0 : (t293 == t296) = false := beq_eq_false_iff_ne.mpr c36
                                have c36b1 : (t293 != t296) = true := bne_iff_ne.mpr c36
                                have H' := Aside0.mk H
                                clear H
                                obtain ⟨Ao41, co41, eo41⟩ := Kd.R_slice HO280.out
                                subst eo41
                                obtain ⟨Ao42, co42, eo42⟩ := Kd.R_slice HO284.out
                                subst eo42
                                go_wp2_with (first | (go_at_call 25; (with_reducible refine (spec_SameNims.calls kj2 _ _ t277 _ _ t281 true _ ?side1 ?side2 ?side3 ?side4 A28.out).mono ?_); (case side1 => repeat (first | exact (Kd.R_reads' HO280.out).2.2 | (with_reducible refine Kd.C_alloc ?_ _) | (with_reducible refine Kd.C_drewN ?_ _) | (with_reducible refine Kd.C_drew ?_))); (case side2 => exact (Kd.R_reads' HO280.out).2.1); (case side3 => repeat (first | exact (Kd.R_reads' HO284.out).2.2 | (with_reducible refine Kd.C_alloc ?_ _) | (with_reducible refine Kd.C_drewN ?_ _) | (with_reducible refine Kd.C_drew ?_))); (case side4 => exact (Kd.R_reads' HO284.out).2.1); rintro e w' ⟨rfl, ⟨nd, rfl⟩⟩; (try first | exact ⟨rfl, _, World.drewN_drewN _ _ _⟩ | exact ⟨rfl, _, Eq.trans (World.drewN_drewN _ _ _) (congrArg (World.drewN _) (Nat.add_assoc _ _ _))⟩); obtain ⟨Ao43, co43, eo43⟩ := Kd.R_slice HO288.out; subst eo43; obtain ⟨Ao44, co44, eo44⟩ := Kd.R_slice HO292.out; subst eo44) | (go_at_call 26; (with_reducible refine (spec_SamePairs.calls kj2 _ _ t285 _ _ t289 true _ ?side1 ?side2 ?side3 ?side4 A33.out).mono ?_); (case side1 => repeat (first | exact (Kd.R_reads' HO288.out).2.2 | (with_reducible refine Kd.C_alloc ?_ _) | (with_reducible refine Kd.C_drewN ?_ _) | (with_reducible refine Kd.C_drew ?_))); (case side2 => exact (Kd.R_reads' HO288.out).2.1); (case side3 => repeat (first | exact (Kd.R_reads' HO292.out).2.2 | (with_reducible refine Kd.C_alloc ?_ _) | (with_reducible refine Kd.C_drewN ?_ _) | (with_reducible refine Kd.C_drew ?_))); (case side4 => exact (Kd.R_reads' HO292.out).2.1); rintro e w' ⟨rfl, ⟨nd, rfl⟩⟩; (try first | exact ⟨rfl, _, World.drewN_drewN _ _ _⟩ | exact ⟨rfl, _, Eq.trans (World.drewN_drewN _ _ _) (congrArg (World.drewN _) (Nat.add_assoc _ _ _))⟩)))
                                repeat (go_quiet (first | (go_at_call 25; (with_reducible refine (spec_SameNims.calls kj2 _ _ t277 _ _ t281 true _ ?side1 ?side2 ?side3 ?side4 A28.out).mono ?_); (case side1 => repeat (first | exact (Kd.R_reads' HO280.out).2.2 | (with_reducible refine Kd.C_alloc ?_ _) | (with_reducible refine Kd.C_drewN ?_ _) | (with_reducible refine Kd.C_drew ?_))); (case side2 => exact (Kd.R_reads' HO280.out).2.1); (case side3 => repeat (first | exact (Kd.R_reads' HO284.out).2.2 | (with_reducible refine Kd.C_alloc ?_ _) | (with_reducible refine Kd.C_drewN ?_ _) | (with_reducible refine Kd.C_drew ?_))); (case side4 => exact (Kd.R_reads' HO284.out).2.1); rintro e w' ⟨rfl, ⟨nd, rfl⟩⟩; (try first | exact ⟨rfl, _, World.drewN_drewN _ _ _⟩ | exact ⟨rfl, _, Eq.trans (World.drewN_drewN _ _ _) (congrArg (World.drewN _) (Nat.add_assoc _ _ _))⟩); obtain ⟨Ao43, co43, eo43⟩ := Kd.R_slice HO288.out; subst eo43; obtain ⟨Ao44, co44, eo44⟩ := Kd.R_slice HO292.out; subst eo44) | (go_at_call 26; (with_reducible refine (spec_SamePairs.calls kj2 _ _ t285 _ _ t289 true _ ?side1 ?side2 ?side3 ?side4 A33.out).mono ?_); (case side1 => repeat (first | exact (Kd.R_reads' HO288.out).2.2 | (with_reducible refine Kd.C_alloc ?_ _) | (with_reducible refine Kd.C_drewN ?_ _) | (with_reducible refine Kd.C_drew ?_))); (case side2 => exact (Kd.R_reads' HO288.out).2.1); (case side3 => repeat (first | exact (Kd.R_reads' HO292.out).2.2 | (with_reducible refine Kd.C_alloc ?_ _) | (with_reducible refine Kd.C_drewN ?_ _) | (with_reducible refine Kd.C_drew ?_))); (case side4 => exact (Kd.R_reads' HO292.out).2.1); rintro e w' ⟨rfl, ⟨nd, rfl⟩⟩; (try first | exact ⟨rfl, _, World.drewN_drewN _ _ _⟩ | exact ⟨rfl, _, Eq.trans (World.drewN_drewN _ _ _) (congrArg (World.drewN _) (Nat.add_assoc _ _ _))⟩))); try go_wp2_with (first | (go_at_call 25; (with_reducible refine (spec_SameNims.calls kj2 _ _ t277 _ _ t281 true _ ?side1 ?side2 ?side3 ?side4 A28.out).mono ?_); (case side1 => repeat (first | exact (Kd.R_reads' HO280.out).2.2 | (with_reducible refine Kd.C_alloc ?_ _) | (with_reducible refine Kd.C_drewN ?_ _) | (with_reducible refine Kd.C_drew ?_))); (case side2 => exact (Kd.R_reads' HO280.out).2.1); (case side3 => repeat (first | exact (Kd.R_reads' HO284.out).2.2 | (with_reducible refine Kd.C_alloc ?_ _) | (with_reducible refine Kd.C_drewN ?_ _) | (with_reducible refine Kd.C_drew ?_))); (case side4 => exact (Kd.R_reads' HO284.out).2.1); rintro e w' ⟨rfl, ⟨nd, rfl⟩⟩; (try first | exact ⟨rfl, _, World.drewN_drewN _ _ _⟩ | exact ⟨rfl, _, Eq.trans (World.drewN_drewN _ _ _) (congrArg (World.drewN _) (Nat.add_assoc _ _ _))⟩); obtain ⟨Ao43, co43, eo43⟩ := Kd.R_slice HO288.out; subst eo43; obtain ⟨Ao44, co44, eo44⟩ := Kd.R_slice HO292.out; subst eo44) | (go_at_call 26; (with_reducible refine (spec_SamePairs.calls kj2 _ _ t285 _ _ t289 true _ ?side1 ?side2 ?side3 ?side4 A33.out).mono ?_); (case side1 => repeat (first | exact (Kd.R_reads' HO288.out).2.2 | (with_reducible refine Kd.C_alloc ?_ _) | (with_reducible refine Kd.C_drewN ?_ _) | (with_reducible refine Kd.C_drew ?_))); (case side2 => exact (Kd.R_reads' HO288.out).2.1); (case side3 => repeat (first | exact (Kd.R_reads' HO292.out).2.2 | (with_reducible refine Kd.C_alloc ?_ _) | (with_reducible refine Kd.C_drewN ?_ _) | (with_reducible refine Kd.C_drew ?_))); (case side4 => exact (Kd.R_reads' HO292.out).2.1); rintro e w' ⟨rfl, ⟨nd, rfl⟩⟩; (try first | exact ⟨rfl, _, World.drewN_drewN _ _ _⟩ | exact ⟨rfl, _, Eq.trans (World.drewN_drewN _ _ _) (congrArg (World.drewN _) (Nat.add_assoc _ _ _))⟩))))
                                go_meet
                                case rel => exact ⟨_, (true), (by first | rfl | (simp; done) | (simp [*]; done)), H', ⟨by have := HJ2.out; first | omega | exact Nat.le_refl _⟩, ⟨by (with_reducible repeat (first | apply Kd.R_alloc | apply Kd.R_drewN | apply Kd.R_drew)); exact HO276.out⟩, ⟨by (with_reducible repeat (first | apply Kd.R_alloc | apply Kd.R_drewN | apply Kd.R_drew)); exact Kd.R_mono HO284.out (fun _ hk => trivial)⟩, ⟨by (with_reducible repeat (first | apply Kd.R_alloc | apply Kd.R_drewN | apply Kd.R_drew)); exact Kd.R_mono HO292.out (fun _ hk => trivial)⟩, ⟨by repeat (first | (with_reducible first | exact HB.out | apply below_alloc | apply pw_below_drewN | apply below_drew1) | exact HB.out)⟩⟩
                            · rw [if_neg c35] at H
                              have c35b0 : (t295 == t298) = false := beq_eq_false_iff_ne.mpr c35
                              have c35b1 : (t295 != t298) = true := bne_iff_ne.mpr c35
                              have H' := Aside0.mk H
                              clear H
                              obtain ⟨Ao45, co45, eo45⟩ := Kd.R_slice HO280.out
                              subst eo45
                              obtain ⟨Ao46, co46, eo46⟩ := Kd.R_slice HO284.out
                              subst eo46
                              go_wp2_with (first | (go_at_call 25; (with_reducible refine (spec_SameNims.calls kj2 _ _ t277 _ _ t281 true _ ?side1 ?side2 ?side3 ?side4 A28.out).mono ?_); (case side1 => repeat (first | exact (Kd.R_reads' HO280.out).2.2 | (with_reducible refine Kd.C_alloc ?_ _) | (with_reducible refine Kd.C_drewN ?_ _) | (with_reducible refine Kd.C_drew ?_))); (case side2 => exact (Kd.R_reads' HO280.out).2.1); (case side3 => repeat (first | exact (Kd.R_reads' HO284.out).2.2 | (with_reducible refine Kd.C_alloc ?_ _) | (with_reducible refine Kd.C_drewN ?_ _) | (with_reducible refine Kd.C_drew ?_))); (case side4 => exact (Kd.R_reads' HO284.out).2.1); rintro e w' ⟨rfl, ⟨nd, rfl⟩⟩; (try first | exact ⟨rfl, _, World.drewN_drewN _ _ _⟩ | exact ⟨rfl, _, Eq.trans (World.drewN_drewN _ _ _) (congrArg (World.drewN _) (Nat.add_assoc _ _ _))⟩); obtain ⟨Ao47, co47, eo47⟩ := Kd.R_slice HO288.out; subst eo47; obtain ⟨Ao48, co48, eo48⟩ := Kd.R_slice HO292.out; subst eo48) | (go_at_call 26; (with_reducible refine (spec_SamePairs.calls kj2 _ _ t285 _ _ t289 true _ ?side1 ?side2 ?side3 ?side4 A33.out).mono ?_); (case side1 => repeat (first | exact (Kd.R_reads' HO288.out).2.2 | (with_reducible refine Kd.C_alloc ?_ _) | (with_reducible refine Kd.C_drewN ?_ _) | (with_reducible refine Kd.C_drew ?_))); (case side2 => exact (Kd.R_reads' HO288.out).2.1); (case side3 => repeat (first | exact (Kd.R_reads' HO292.out).2.2 | (with_reducible refine Kd.C_alloc ?_ _) | (with_reducible refine Kd.C_drewN ?_ _) | (with_reducible refine Kd.C_drew ?_))); (case side4 => exact (Kd.R_reads' HO292.out).2.1); rintro e w' ⟨rfl, ⟨nd, rfl⟩⟩; (try first | exact ⟨rfl, _, World.drewN_drewN _ _ _⟩ | exact ⟨rfl, _, Eq.trans (World.drewN_drewN _ _ _) (congrArg (World.drewN _) (Nat.add_assoc _ _ _))⟩)))
                              repeat (go_quiet (first | (go_at_call 25; (with_reducible refine (spec_SameNims.calls kj2 _ _ t277 _ _ t281 true _ ?side1 ?side2 ?side3 ?side4 A28.out).mono ?_); (case side1 => repeat (first | exact (Kd.R_reads' HO280.out).2.2 | (with_reducible refine Kd.C_alloc ?_ _) | (with_reducible refine Kd.C_drewN ?_ _) | (with_reducible refine Kd.C_drew ?_))); (case side2 => exact (Kd.R_reads' HO280.out).2.1); (case side3 => repeat (first | exact (Kd.R_reads' HO284.out).2.2 | (with_reducible refine Kd.C_alloc ?_ _) | (with_reducible refine Kd.C_drewN ?_ _) | (with_reducible refine Kd.C_drew ?_))); (case side4 => exact (Kd.R_reads' HO284.out).2.1); rintro e w' ⟨rfl, ⟨nd, rfl⟩⟩; (try first | exact ⟨rfl, _, World.drewN_drewN _ _ _⟩ | exact ⟨rfl, _, Eq.trans (World.drewN_drewN _ _ _) (congrArg (World.drewN _) (Nat.add_assoc _ _ _))⟩); obtain ⟨Ao47, co47, eo47⟩ := Kd.R_slice HO288.out; subst eo47; obtain ⟨Ao48, co48, eo48⟩ := Kd.R_slice HO292.out; subst eo48) | (go_at_call 26; (with_reducible refine (spec_SamePairs.calls kj2 _ _ t285 _ _ t289 true _ ?side1 ?side2 ?side3 ?side4 A33.out).mono ?_); (case side1 => repeat (first | exact (Kd.R_reads' HO288.out).2.2 | (with_reducible refine Kd.C_alloc ?_ _) | (with_reducible refine Kd.C_drewN ?_ _) | (with_reducible refine Kd.C_drew ?_))); (case side2 => exact (Kd.R_reads' HO288.out).2.1); (case side3 => repeat (first | exact (Kd.R_reads' HO292.out).2.2 | (with_reducible refine Kd.C_alloc ?_ _) | (with_reducible refine Kd.C_drewN ?_ _) | (with_reducible refine Kd.C_drew ?_))); (case side4 => exact (Kd.R_reads' HO292.out).2.1); rintro e w' ⟨rfl, ⟨nd, rfl⟩⟩; (try first | exact ⟨rfl, _, World.drewN_drewN _ _ _⟩ | exact ⟨rfl, _, Eq.trans (World.drewN_drewN _ _ _) (congrArg (World.drewN _) (Nat.add_assoc _ _ _))⟩))); try go_wp2_with (first | (go_at_call 25; (with_reducible refine (spec_SameNims.calls kj2 _ _ t277 _ _ t281 true _ ?side1 ?side2 ?side3 ?side4 A28.out).mono ?_); (case side1 => repeat (first | exact (Kd.R_reads' HO280.out).2.2 | (with_reducible refine Kd.C_alloc ?_ _) | (with_reducible refine Kd.C_drewN ?_ _) | (with_reducible refine Kd.C_drew ?_))); (case side2 => exact (Kd.R_reads' HO280.out).2.1); (case side3 => repeat (first | exact (Kd.R_reads' HO284.out).2.2 | (with_reducible refine Kd.C_alloc ?_ _) | (with_reducible refine Kd.C_drewN ?_ _) | (with_reducible refine Kd.C_drew ?_))); (case side4 => exact (Kd.R_reads' HO284.out).2.1); rintro e w' ⟨rfl, ⟨nd, rfl⟩⟩; (try first | exact ⟨rfl, _, World.drewN_drewN _ _ _⟩ | exact ⟨rfl, _, Eq.trans (World.drewN_drewN _ _ _) (congrArg (World.drewN _) (Nat.add_assoc _ _ _))⟩); obtain ⟨Ao47, co47, eo47⟩ := Kd.R_slice HO288.out; subst eo47; obtain ⟨Ao48, co48, eo48⟩ := Kd.R_slice HO292.out; subst eo48) | (go_at_call 26; (with_reducible refine (spec_SamePairs.calls kj2 _ _ t285 _ _ t289 true _ ?side1 ?side2 ?side3 ?side4 A33.out).mono ?_); (case side1 => repeat (first | exact (Kd.R_reads' HO288.out).2.2 | (with_reducible refine Kd.C_alloc ?_ _) | (with_reducible refine Kd.C_drewN ?_ _) | (with_reducible refine Kd.C_drew ?_))); (case side2 => exact (Kd.R_reads' HO288.out).2.1); (case side3 => repeat (first | exact (Kd.R_reads' HO292.out).2.2 | (with_reducible refine Kd.C_alloc ?_ _) | (with_reducible refine Kd.C_drewN ?_ _) | (with_reducible refine Kd.C_drew ?_))); (case side4 => exact (Kd.R_reads' HO292.out).2.1); rintro e w' ⟨rfl, ⟨nd, rfl⟩⟩; (try first | exact ⟨rfl, _, World.drewN_drewN _ _ _⟩ | exact ⟨rfl, _, Eq.trans (World.drewN_drewN _ _ _) (congrArg (World.drewN _) (Nat.add_assoc _ _ _))⟩))))
                              go_meet
                              case rel => exact ⟨_, (true), (by first | rfl | (simp; done) | (simp [*]; done)), H', ⟨by have := HJ2.out; first | omega | exact Nat.le_refl _⟩, ⟨by (with_reducible repeat (first | apply Kd.R_alloc | apply Kd.R_drewN | apply Kd.R_drew)); exact HO276.out⟩, ⟨by (with_reducible repeat (first | apply Kd.R_alloc | apply Kd.R_drewN | apply Kd.R_drew)); exact Kd.R_mono HO284.out (fun _ hk => trivial)⟩, ⟨by (with_reducible repeat (first | apply Kd.R_alloc | apply Kd.R_drewN | apply Kd.R_drew)); exact Kd.R_mono HO292.out (fun _ hk => trivial)⟩, ⟨by repeat (first | (with_reducible first | exact HB.out | apply below_alloc | apply pw_below_drewN | apply below_drew1) | exact HB.out)⟩⟩
                          · replace c34 := Bool.eq_false_iff.mpr c34
                            subst c34
                            have H1 : (laws_FnHeapsTaken.j1 kj2 t273 t274 t281 t289 t295 t296 t297 true) = some r := by rw [if_neg (show ¬ (false = true) by decide)] at H; exact H
                            clear H
                            have H := H1
                            clear H1
                            have H' := Aside0.mk H
                            clear H
                            obtain ⟨Ao49, co49, eo49⟩ := Kd.R_slice HO280.out
                            subst eo49
                            obtain ⟨Ao50, co50, eo50⟩ := Kd.R_slice HO284.out
                            subst eo50
                            go_wp2_with (first | (go_at_call 25; (with_reducible refine (spec_SameNims.calls kj2 _ _ t277 _ _ t281 true _ ?side1 ?side2 ?side3 ?side4 A28.out).mono ?_); (case side1 => repeat (first | exact (Kd.R_reads' HO280.out).2.2 | (with_reducible refine Kd.C_alloc ?_ _) | (with_reducible refine Kd.C_drewN ?_ _) | (with_reducible refine Kd.C_drew ?_))); (case side2 => exact (Kd.R_reads' HO280.out).2.1); (case side3 => repeat (first | exact (Kd.R_reads' HO284.out).2.2 | (with_reducible refine Kd.C_alloc ?_ _) | (with_reducible refine Kd.C_drewN ?_ _) | (with_reducible refine Kd.C_drew ?_))); (case side4 => exact (Kd.R_reads' HO284.out).2.1); rintro e w' ⟨rfl, ⟨nd, rfl⟩⟩; (try first | exact ⟨rfl, _, World.drewN_drewN _ _ _⟩ | exact ⟨rfl, _, Eq.trans (World.drewN_drewN _ _ _) (congrArg (World.drewN _) (Nat.add_assoc _ _ _))⟩); obtain ⟨Ao51, co51, eo51⟩ := Kd.R_slice HO288.out; subst eo51; obtain ⟨Ao52, co52, eo52⟩ := Kd.R_slice HO292.out; subst eo52) | (go_at_call 26; (with_reducible refine (spec_SamePairs.calls kj2 _ _ t285 _ _ t289 false _ ?side1 ?side2 ?side3 ?side4 A33.out).mono ?_); (case side1 => repeat (first | exact (Kd.R_reads' HO288.out).2.2 | (with_reducible refine Kd.C_alloc ?_ _) | (with_reducible refine Kd.C_drewN ?_ _) | (with_reducible refine Kd.C_drew ?_))); (case side2 => exact (Kd.R_reads' HO288.out).2.1); (case side3 => repeat (first | exact (Kd.R_reads' HO292.out).2.2 | (with_reducible refine Kd.C_alloc ?_ _) | (with_reducible refine Kd.C_drewN ?_ _) | (with_reducible refine Kd.C_drew ?_))); (case side4 => exact (Kd.R_reads' HO292.out).2.1); rintro e w' ⟨rfl, ⟨nd, rfl⟩⟩; (try first | exact ⟨rfl, _, World.drewN_drewN _ _ _⟩ | exact ⟨rfl, _, Eq.trans (World.drewN_drewN _ _ _) (congrArg (World.drewN _) (Nat.add_assoc _ _ _))⟩)))
                            repeat (go_quiet (first | (go_at_call 25; (with_reducible refine (spec_SameNims.calls kj2 _ _ t277 _ _ t281 true _ ?side1 ?side2 ?side3 ?side4 A28.out).mono ?_); (case side1 => repeat (first | exact (Kd.R_reads' HO280.out).2.2 | (with_reducible refine Kd.C_alloc ?_ _) | (with_reducible refine Kd.C_drewN ?_ _) | (with_reducible refine Kd.C_drew ?_))); (case side2 => exact (Kd.R_reads' HO280.out).2.1); (case side3 => repeat (first | exact (Kd.R_reads' HO284.out).2.2 | (with_reducible refine Kd.C_alloc ?_ _) | (with_reducible refine Kd.C_drewN ?_ _) | (with_reducible refine Kd.C_drew ?_))); (case side4 => exact (Kd.R_reads' HO284.out).2.1); rintro e w' ⟨rfl, ⟨nd, rfl⟩⟩; (try first | exact ⟨rfl, _, World.drewN_drewN _ _ _⟩ | exact ⟨rfl, _, Eq.trans (World.drewN_drewN _ _ _) (congrArg (World.drewN _) (Nat.add_assoc _ _ _))⟩); obtain ⟨Ao51, co51, eo51⟩ := Kd.R_slice HO288.out; subst eo51; obtain ⟨Ao52, co52, eo52⟩ := Kd.R_slice HO292.out; subst eo52) | (go_at_call 26; (with_reducible refine (spec_SamePairs.calls kj2 _ _ t285 _ _ t289 false _ ?side1 ?side2 ?side3 ?side4 A33.out).mono ?_); (case side1 => repeat (first | exact (Kd.R_reads' HO288.out).2.2 | (with_reducible refine Kd.C_alloc ?_ _) | (with_reducible refine Kd.C_drewN ?_ _) | (with_reducible refine Kd.C_drew ?_))); (case side2 => exact (Kd.R_reads' HO288.out).2.1); (case side3 => repeat (first | exact (Kd.R_reads' HO292.out).2.2 | (with_reducible refine Kd.C_alloc ?_ _) | (with_reducible refine Kd.C_drewN ?_ _) | (with_reducible refine Kd.C_drew ?_))); (case side4 => exact (Kd.R_reads' HO292.out).2.1); rintro e w' ⟨rfl, ⟨nd, rfl⟩⟩; (try first | exact ⟨rfl, _, World.drewN_drewN _ _ _⟩ | exact ⟨rfl, _, Eq.trans (World.drewN_drewN _ _ _) (congrArg (World.drewN _) (Nat.add_assoc _ _ _))⟩))); try go_wp2_with (first | (go_at_call 25; (with_reducible refine (spec_SameNims.calls kj2 _ _ t277 _ _ t281 true _ ?side1 ?side2 ?side3 ?side4 A28.out).mono ?_); (case side1 => repeat (first | exact (Kd.R_reads' HO280.out).2.2 | (with_reducible refine Kd.C_alloc ?_ _) | (with_reducible refine Kd.C_drewN ?_ _) | (with_reducible refine Kd.C_drew ?_))); (case side2 => exact (Kd.R_reads' HO280.out).2.1); (case side3 => repeat (first | exact (Kd.R_reads' HO284.out).2.2 | (with_reducible refine Kd.C_alloc ?_ _) | (with_reducible refine Kd.C_drewN ?_ _) | (with_reducible refine Kd.C_drew ?_))); (case side4 => exact (Kd.R_reads' HO284.out).2.1); rintro e w' ⟨rfl, ⟨nd, rfl⟩⟩; (try first | exact ⟨rfl, _, World.drewN_drewN _ _ _⟩ | exact ⟨rfl, _, Eq.trans (World.drewN_drewN _ _ _) (congrArg (World.drewN _) (Nat.add_assoc _ _ _))⟩); obtain ⟨Ao51, co51, eo51⟩ := Kd.R_slice HO288.out; subst eo51; obtain ⟨Ao52, co52, eo52⟩ := Kd.R_slice HO292.out; subst eo52) | (go_at_call 26; (with_reducible refine (spec_SamePairs.calls kj2 _ _ t285 _ _ t289 false _ ?side1 ?side2 ?side3 ?side4 A33.out).mono ?_); (case side1 => repeat (first | exact (Kd.R_reads' HO288.out).2.2 | (with_reducible refine Kd.C_alloc ?_ _) | (with_reducible refine Kd.C_drewN ?_ _) | (with_reducible refine Kd.C_drew ?_))); (case side2 => exact (Kd.R_reads' HO288.out).2.1); (case side3 => repeat (first | exact (Kd.R_reads' HO292.out).2.2 | (with_reducible refine Kd.C_alloc ?_ _) | (with_reducible refine Kd.C_drewN ?_ _) | (with_reducible refine Kd.C_drew ?_))); (case side4 => exact (Kd.R_reads' HO292.out).2.1); rintro e w' ⟨rfl, ⟨nd, rfl⟩⟩; (try first | exact ⟨rfl, _, World.drewN_drewN _ _ _⟩ | exact ⟨rfl, _, Eq.trans (World.drewN_drewN _ _ _) (congrArg (World.drewN _) (Nat.add_assoc _ _ _))⟩))))
                            go_meet
                            case rel => exact ⟨_, (true), (by first | rfl | (simp; done) | (simp [*]; done)), H', ⟨by have := HJ2.out; first | omega | exact Nat.le_refl _⟩, ⟨by (with_reducible repeat (first | apply Kd.R_alloc | apply Kd.R_drewN | apply Kd.R_drew)); exact HO276.out⟩, ⟨by (with_reducible repeat (first | apply Kd.R_alloc | apply Kd.R_drewN | apply Kd.R_drew)); exact Kd.R_mono HO284.out (fun _ hk => trivial)⟩, ⟨by (with_reducible repeat (first | apply Kd.R_alloc | apply Kd.R_drewN | apply Kd.R_drew)); exact Kd.R_mono HO292.out (fun _ hk => trivial)⟩, ⟨by repeat (first | (with_reducible first | exact HB.out | apply below_alloc | apply pw_below_drewN | apply below_drew1) | exact HB.out)⟩⟩
                        · rw [if_neg c32] at H
                          have c32b0 : (t286 == 0) = false := beq_eq_false_iff_ne.mpr c32
                          have c32b1 : (t286 != 0) = true := bne_iff_ne.mpr c32
                          have H' := Aside0.mk H
                          clear H
                          obtain ⟨Ao53, co53, eo53⟩ := Kd.R_slice HO280.out
                          subst eo53
                          obtain ⟨Ao54, co54, eo54⟩ := Kd.R_slice HO284.out
                          subst eo54
                          go_wp2_with (first | (go_at_call 25; (with_reducible refine (spec_SameNims.calls kj2 _ _ t277 _ _ t281 true _ ?side1 ?side2 ?side3 ?side4 A28.out).mono ?_); (case side1 => repeat (first | exact (Kd.R_reads' HO280.out).2.2 | (with_reducible refine Kd.C_alloc ?_ _) | (with_reducible refine Kd.C_drewN ?_ _) | (with_reducible refine Kd.C_drew ?_))); (case side2 => exact (Kd.R_reads' HO280.out).2.1); (case side3 => repeat (first | exact (Kd.R_reads' HO284.out).2.2 | (with_reducible refine Kd.C_alloc ?_ _) | (with_reducible refine Kd.C_drewN ?_ _) | (with_reducible refine Kd.C_drew ?_))); (case side4 => exact (Kd.R_reads' HO284.out).2.1); rintro e w' ⟨rfl, ⟨nd, rfl⟩⟩; (try first | exact ⟨rfl, _, World.drewN_drewN _ _ _⟩ | exact ⟨rfl, _, Eq.trans (World.drewN_drewN _ _ _) (congrArg (World.drewN _) (Nat.add_assoc _ _ _))⟩)))
                          repeat (go_quiet (first | (go_at_call 25; (with_reducible refine (spec_SameNims.calls kj2 _ _ t277 _ _ t281 true _ ?side1 ?side2 ?side3 ?side4 A28.out).mono ?_); (case side1 => repeat (first | exact (Kd.R_reads' HO280.out).2.2 | (with_reducible refine Kd.C_alloc ?_ _) | (with_reducible refine Kd.C_drewN ?_ _) | (with_reducible refine Kd.C_drew ?_))); (case side2 => exact (Kd.R_reads' HO280.out).2.1); (case side3 => repeat (first | exact (Kd.R_reads' HO284.out).2.2 | (with_reducible refine Kd.C_alloc ?_ _) | (with_reducible refine Kd.C_drewN ?_ _) | (with_reducible refine Kd.C_drew ?_))); (case side4 => exact (Kd.R_reads' HO284.out).2.1); rintro e w' ⟨rfl, ⟨nd, rfl⟩⟩; (try first | exact ⟨rfl, _, World.drewN_drewN _ _ _⟩ | exact ⟨rfl, _, Eq.trans (World.drewN_drewN _ _ _) (congrArg (World.drewN _) (Nat.add_assoc _ _ _))⟩))); try go_wp2_with (first | (go_at_call 25; (with_reducible refine (spec_SameNims.calls kj2 _ _ t277 _ _ t281 true _ ?side1 ?side2 ?side3 ?side4 A28.out).mono ?_); (case side1 => repeat (first | exact (Kd.R_reads' HO280.out).2.2 | (with_reducible refine Kd.C_alloc ?_ _) | (with_reducible refine Kd.C_drewN ?_ _) | (with_reducible refine Kd.C_drew ?_))); (case side2 => exact (Kd.R_reads' HO280.out).2.1); (case side3 => repeat (first | exact (Kd.R_reads' HO284.out).2.2 | (with_reducible refine Kd.C_alloc ?_ _) | (with_reducible refine Kd.C_drewN ?_ _) | (with_reducible refine Kd.C_drew ?_))); (case side4 => exact (Kd.R_reads' HO284.out).2.1); rintro e w' ⟨rfl, ⟨nd, rfl⟩⟩; (try first | exact ⟨rfl, _, World.drewN_drewN _ _ _⟩ | exact ⟨rfl, _, Eq.trans (World.drewN_drewN _ _ _) (congrArg (World.drewN _) (Nat.add_assoc _ _ _))⟩))))
                          go_meet
                          case rel => exact ⟨_, (true), (by first | rfl | (simp; done) | (simp [*]; done)), H', ⟨by have := HJ2.out; first | omega | exact Nat.le_refl _⟩, ⟨by (with_reducible repeat (first | apply Kd.R_alloc | apply Kd.R_drewN | apply Kd.R_drew)); exact HO276.out⟩, ⟨by (with_reducible repeat (first | apply Kd.R_alloc | apply Kd.R_drewN | apply Kd.R_drew)); exact Kd.R_mono HO284.out (fun _ hk => trivial)⟩, ⟨by (with_reducible repeat (first | apply Kd.R_alloc | apply Kd.R_drewN | apply Kd.R_drew)); exact Kd.R_mono HO292.out (fun _ hk => trivial)⟩, ⟨by repeat (first | (with_reducible first | exact HB.out | apply below_alloc | apply pw_below_drewN | apply below_drew1) | exact HB.out)⟩⟩
                      · rw [if_neg c31] at H
                        have c31b0 : (t286 == t290) = false := beq_eq_false_iff_ne.mpr c31
                        have c31b1 : (t286 != t290) = true := bne_iff_ne.mpr c31
                        have H' := Aside0.mk H
                        clear H
                        obtain ⟨Ao55, co55, eo55⟩ := Kd.R_slice HO280.out
                        subst eo55
                        obtain ⟨Ao56, co56, eo56⟩ := Kd.R_slice HO284.out
                        subst eo56
                        go_wp2_with (first | (go_at_call 25; (with_reducible refine (spec_SameNims.calls kj2 _ _ t277 _ _ t281 true _ ?side1 ?side2 ?side3 ?side4 A28.out).mono ?_); (case side1 => repeat (first | exact (Kd.R_reads' HO280.out).2.2 | (with_reducible refine Kd.C_alloc ?_ _) | (with_reducible refine Kd.C_drewN ?_ _) | (with_reducible refine Kd.C_drew ?_))); (case side2 => exact (Kd.R_reads' HO280.out).2.1); (case side3 => repeat (first | exact (Kd.R_reads' HO284.out).2.2 | (with_reducible refine Kd.C_alloc ?_ _) | (with_reducible refine Kd.C_drewN ?_ _) | (with_reducible refine Kd.C_drew ?_))); (case side4 => exact (Kd.R_reads' HO284.out).2.1); rintro e w' ⟨rfl, ⟨nd, rfl⟩⟩; (try first | exact ⟨rfl, _, World.drewN_drewN _ _ _⟩ | exact ⟨rfl, _, Eq.trans (World.drewN_drewN _ _ _) (congrArg (World.drewN _) (Nat.add_assoc _ _ _))⟩)))
                        repeat (go_quiet (first | (go_at_call 25; (with_reducible refine (spec_SameNims.calls kj2 _ _ t277 _ _ t281 true _ ?side1 ?side2 ?side3 ?side4 A28.out).mono ?_); (case side1 => repeat (first | exact (Kd.R_reads' HO280.out).2.2 | (with_reducible refine Kd.C_alloc ?_ _) | (with_reducible refine Kd.C_drewN ?_ _) | (with_reducible refine Kd.C_drew ?_))); (case side2 => exact (Kd.R_reads' HO280.out).2.1); (case side3 => repeat (first | exact (Kd.R_reads' HO284.out).2.2 | (with_reducible refine Kd.C_alloc ?_ _) | (with_reducible refine Kd.C_drewN ?_ _) | (with_reducible refine Kd.C_drew ?_))); (case side4 => exact (Kd.R_reads' HO284.out).2.1); rintro e w' ⟨rfl, ⟨nd, rfl⟩⟩; (try first | exact ⟨rfl, _, World.drewN_drewN _ _ _⟩ | exact ⟨rfl, _, Eq.trans (World.drewN_drewN _ _ _) (congrArg (World.drewN _) (Nat.add_assoc _ _ _))⟩))); try go_wp2_with (first | (go_at_call 25; (with_reducible refine (spec_SameNims.calls kj2 _ _ t277 _ _ t281 true _ ?side1 ?side2 ?side3 ?side4 A28.out).mono ?_); (case side1 => repeat (first | exact (Kd.R_reads' HO280.out).2.2 | (with_reducible refine Kd.C_alloc ?_ _) | (with_reducible refine Kd.C_drewN ?_ _) | (with_reducible refine Kd.C_drew ?_))); (case side2 => exact (Kd.R_reads' HO280.out).2.1); (case side3 => repeat (first | exact (Kd.R_reads' HO284.out).2.2 | (with_reducible refine Kd.C_alloc ?_ _) | (with_reducible refine Kd.C_drewN ?_ _) | (with_reducible refine Kd.C_drew ?_))); (case side4 => exact (Kd.R_reads' HO284.out).2.1); rintro e w' ⟨rfl, ⟨nd, rfl⟩⟩; (try first | exact ⟨rfl, _, World.drewN_drewN _ _ _⟩ | exact ⟨rfl, _, Eq.trans (World.drewN_drewN _ _ _) (congrArg (World.drewN _) (Nat.add_assoc _ _ _))⟩))))
                        go_meet
                        case rel => exact ⟨_, (true), (by first | rfl | (simp; done) | (simp [*]; done)), H', ⟨by have := HJ2.out; first | omega | exact Nat.le_refl _⟩, ⟨by (with_reducible repeat (first | apply Kd.R_alloc | apply Kd.R_drewN | apply Kd.R_drew)); exact HO276.out⟩, ⟨by (with_reducible repeat (first | apply Kd.R_alloc | apply Kd.R_drewN | apply Kd.R_drew)); exact Kd.R_mono HO284.out (fun _ hk => trivial)⟩, ⟨by (with_reducible repeat (first | apply Kd.R_alloc | apply Kd.R_drewN | apply Kd.R_drew)); exact Kd.R_mono HO292.out (fun _ hk => trivial)⟩, ⟨by repeat (first | (with_reducible first | exact HB.out | apply below_alloc | apply pw_below_drewN | apply below_drew1) | exact HB.out)⟩⟩
                    · rw [if_neg c30] at H
                      have c30b0 : ((t281.length : Int) == 201) = false := beq_eq_false_iff_ne.mpr c30
                      have c30b1 : ((t281.length : Int) != 201) = true := bne_iff_ne.mpr c30
                      have H' := Aside0.mk H
                      clear H
                      obtain ⟨Ao57, co57, eo57⟩ := Kd.R_slice HO280.out
                      subst eo57
                      obtain ⟨Ao58, co58, eo58⟩ := Kd.R_slice HO284.out
                      subst eo58
                      go_wp2_with (first | (go_at_call 25; (with_reducible refine (spec_SameNims.calls kj2 _ _ t277 _ _ t281 true _ ?side1 ?side2 ?side3 ?side4 A28.out).mono ?_); (case side1 => repeat (first | exact (Kd.R_reads' HO280.out).2.2 | (with_reducible refine Kd.C_alloc ?_ _) | (with_reducible refine Kd.C_drewN ?_ _) | (with_reducible refine Kd.C_drew ?_))); (case side2 => exact (Kd.R_reads' HO280.out).2.1); (case side3 => repeat (first | exact (Kd.R_reads' HO284.out).2.2 | (with_reducible refine Kd.C_alloc ?_ _) | (with_reducible refine Kd.C_drewN ?_ _) | (with_reducible refine Kd.C_drew ?_))); (case side4 => exact (Kd.R_reads' HO284.out).2.1); rintro e w' ⟨rfl, ⟨nd, rfl⟩⟩; (try first | exact ⟨rfl, _, World.drewN_drewN _ _ _⟩ | exact ⟨rfl, _, Eq.trans (World.drewN_drewN _ _ _) (congrArg (World.drewN _) (Nat.add_assoc _ _ _))⟩)))
                      repeat (go_quiet (first | (go_at_call 25; (with_reducible refine (spec_SameNims.calls kj2 _ _ t277 _ _ t281 true _ ?side1 ?side2 ?side3 ?side4 A28.out).mono ?_); (case side1 => repeat (first | exact (Kd.R_reads' HO280.out).2.2 | (with_reducible refine Kd.C_alloc ?_ _) | (with_reducible refine Kd.C_drewN ?_ _) | (with_reducible refine Kd.C_drew ?_))); (case side2 => exact (Kd.R_reads' HO280.out).2.1); (case side3 => repeat (first | exact (Kd.R_reads' HO284.out).2.2 | (with_reducible refine Kd.C_alloc ?_ _) | (with_reducible refine Kd.C_drewN ?_ _) | (with_reducible refine Kd.C_drew ?_))); (case side4 => exact (Kd.R_reads' HO284.out).2.1); rintro e w' ⟨rfl, ⟨nd, rfl⟩⟩; (try first | exact ⟨rfl, _, World.drewN_drewN _ _ _⟩ | exact ⟨rfl, _, Eq.trans (World.drewN_drewN _ _ _) (congrArg (World.drewN _) (Nat.add_assoc _ _ _))⟩))); try go_wp2_with (first | (go_at_call 25; (with_reducible refine (spec_SameNims.calls kj2 _ _ t277 _ _ t281 true _ ?side1 ?side2 ?side3 ?side4 A28.out).mono ?_); (case side1 => repeat (first | exact (Kd.R_reads' HO280.out).2.2 | (with_reducible refine Kd.C_alloc ?_ _) | (with_reducible refine Kd.C_drewN ?_ _) | (with_reducible refine Kd.C_drew ?_))); (case side2 => exact (Kd.R_reads' HO280.out).2.1); (case side3 => repeat (first | exact (Kd.R_reads' HO284.out).2.2 | (with_reducible refine Kd.C_alloc ?_ _) | (with_reducible refine Kd.C_drewN ?_ _) | (with_reducible refine Kd.C_drew ?_))); (case side4 => exact (Kd.R_reads' HO284.out).2.1); rintro e w' ⟨rfl, ⟨nd, rfl⟩⟩; (try first | exact ⟨rfl, _, World.drewN_drewN _ _ _⟩ | exact ⟨rfl, _, Eq.trans (World.drewN_drewN _ _ _) (congrArg (World.drewN _) (Nat.add_assoc _ _ _))⟩))))
                      go_meet
                      case rel => exact ⟨_, (true), (by first | rfl | (simp; done) | (simp [*]; done)), H', ⟨by have := HJ2.out; first | omega | exact Nat.le_refl _⟩, ⟨by (with_reducible repeat (first | apply Kd.R_alloc | apply Kd.R_drewN | apply Kd.R_drew)); exact HO276.out⟩, ⟨by (with_reducible repeat (first | apply Kd.R_alloc | apply Kd.R_drewN | apply Kd.R_drew)); exact Kd.R_mono HO284.out (fun _ hk => trivial)⟩, ⟨by (with_reducible repeat (first | apply Kd.R_alloc | apply Kd.R_drewN | apply Kd.R_drew)); exact Kd.R_mono HO292.out (fun _ hk => trivial)⟩, ⟨by repeat (first | (with_reducible first | exact HB.out | apply below_alloc | apply pw_below_drewN | apply below_drew1) | exact HB.out)⟩⟩
                  · replace c29 := Bool.eq_false_iff.mpr c29
                    subst c29
                    have H1 : (laws_FnHeapsTaken.j1 kj2 t273 t274 t281 t289 t295 t296 t297 true) = some r := by rw [if_neg (show ¬ (false = true) by decide)] at H; exact H
                    clear H
                    have H := H1
                    clear H1
                    have H' := Aside0.mk H
                    clear H
                    obtain ⟨Ao59, co59, eo59⟩ := Kd.R_slice HO280.out
                    subst eo59
                    obtain ⟨Ao60, co60, eo60⟩ := Kd.R_slice HO284.out
                    subst eo60
                    go_wp2_with (first | (go_at_call 25; (with_reducible refine (spec_SameNims.calls kj2 _ _ t277 _ _ t281 false _ ?side1 ?side2 ?side3 ?side4 A28.out).mono ?_); (case side1 => repeat (first | exact (Kd.R_reads' HO280.out).2.2 | (with_reducible refine Kd.C_alloc ?_ _) | (with_reducible refine Kd.C_drewN ?_ _) | (with_reducible refine Kd.C_drew ?_))); (case side2 => exact (Kd.R_reads' HO280.out).2.1); (case side3 => repeat (first | exact (Kd.R_reads' HO284.out).2.2 | (with_reducible refine Kd.C_alloc ?_ _) | (with_reducible refine Kd.C_drewN ?_ _) | (with_reducible refine Kd.C_drew ?_))); (case side4 => exact (Kd.R_reads' HO284.out).2.1); rintro e w' ⟨rfl, ⟨nd, rfl⟩⟩; (try first | exact ⟨rfl, _, World.drewN_drewN _ _ _⟩ | exact ⟨rfl, _, Eq.trans (World.drewN_drewN _ _ _) (congrArg (World.drewN _) (Nat.add_assoc _ _ _))⟩)))
                    repeat (go_quiet (first | (go_at_call 25; (with_reducible refine (spec_SameNims.calls kj2 _ _ t277 _ _ t281 false _ ?side1 ?side2 ?side3 ?side4 A28.out).mono ?_); (case side1 => repeat (first | exact (Kd.R_reads' HO280.out).2.2 | (with_reducible refine Kd.C_alloc ?_ _) | (with_reducible refine Kd.C_drewN ?_ _) | (with_reducible refine Kd.C_drew ?_))); (case side2 => exact (Kd.R_reads' HO280.out).2.1); (case side3 => repeat (first | exact (Kd.R_reads' HO284.out).2.2 | (with_reducible refine Kd.C_alloc ?_ _) | (with_reducible refine Kd.C_drewN ?_ _) | (with_reducible refine Kd.C_drew ?_))); (case side4 => exact (Kd.R_reads' HO284.out).2.1); rintro e w' ⟨rfl, ⟨nd, rfl⟩⟩; (try first | exact ⟨rfl, _, World.drewN_drewN _ _ _⟩ | exact ⟨rfl, _, Eq.trans (World.drewN_drewN _ _ _) (congrArg (World.drewN _) (Nat.add_assoc _ _ _))⟩))); try go_wp2_with (first | (go_at_call 25; (with_reducible refine (spec_SameNims.calls kj2 _ _ t277 _ _ t281 false _ ?side1 ?side2 ?side3 ?side4 A28.out).mono ?_); (case side1 => repeat (first | exact (Kd.R_reads' HO280.out).2.2 | (with_reducible refine Kd.C_alloc ?_ _) | (with_reducible refine Kd.C_drewN ?_ _) | (with_reducible refine Kd.C_drew ?_))); (case side2 => exact (Kd.R_reads' HO280.out).2.1); (case side3 => repeat (first | exact (Kd.R_reads' HO284.out).2.2 | (with_reducible refine Kd.C_alloc ?_ _) | (with_reducible refine Kd.C_drewN ?_ _) | (with_reducible refine Kd.C_drew ?_))); (case side4 => exact (Kd.R_reads' HO284.out).2.1); rintro e w' ⟨rfl, ⟨nd, rfl⟩⟩; (try first | exact ⟨rfl, _, World.drewN_drewN _ _ _⟩ | exact ⟨rfl, _, Eq.trans (World.drewN_drewN _ _ _) (congrArg (World.drewN _) (Nat.add_assoc _ _ _))⟩))))
                    go_meet
                    case rel => exact ⟨_, (true), (by first | rfl | (simp; done) | (simp [*]; done)), H', ⟨by have := HJ2.out; first | omega | exact Nat.le_refl _⟩, ⟨by (with_reducible repeat (first | apply Kd.R_alloc | apply Kd.R_drewN | apply Kd.R_drew)); exact HO276.out⟩, ⟨by (with_reducible repeat (first | apply Kd.R_alloc | apply Kd.R_drewN | apply Kd.R_drew)); exact Kd.R_mono HO284.out (fun _ hk => trivial)⟩, ⟨by (with_reducible repeat (first | apply Kd.R_alloc | apply Kd.R_drewN | apply Kd.R_drew)); exact Kd.R_mono HO292.out (fun _ hk => trivial)⟩, ⟨by repeat (first | (with_reducible first | exact HB.out | apply below_alloc | apply pw_below_drewN | apply below_drew1) | exact HB.out)⟩⟩
                · rw [if_neg c27] at H
                  have c27b0 : (t278 == 0) = false := beq_eq_false_iff_ne.mpr c27
                  have c27b1 : (t278 != 0) = true := bne_iff_ne.mpr c27
                  have H' := Aside0.mk H
                  clear H
                  go_wp2
                  repeat (go_quiet (fail); try go_wp2)
                  go_meet
                  case rel => exact ⟨_, (true), (by first | rfl | (simp; done) | (simp [*]; done)), H', ⟨by have := HJ2.out; first | omega | exact Nat.le_refl _⟩, ⟨by (with_reducible repeat (first | apply Kd.R_alloc | apply Kd.R_drewN | apply Kd.R_drew)); exact HO276.out⟩, ⟨by (with_reducible repeat (first | apply Kd.R_alloc | apply Kd.R_drewN | apply Kd.R_drew)); exact Kd.R_mono HO284.out (fun _ hk => trivial)⟩, ⟨by (with_reducible repeat (first | apply Kd.R_alloc | apply Kd.R_drewN | apply Kd.R_drew)); exact Kd.R_mono HO292.out (fun _ hk => trivial)⟩, ⟨by repeat (first | (with_reducible first | exact HB.out | apply below_alloc | apply pw_below_drewN | apply below_drew1) | exact HB.out)⟩⟩
              · rw [if_neg c26] at H
                have c26b0 : (t278 == t282) = false := beq_eq_false_iff_ne.mpr c26
                have c26b1 : (t278 != t282) = true := bne_iff_ne.mpr c26
                (first | rw [c26b0] | (simp only [i64_w, i32_w]; rw [c26b0]) | skip)
                have H' := Aside0.mk H
                clear H
                go_wp2
                repeat (go_quiet (fail); try go_wp2)
                go_meet
                case rel => exact ⟨_, (true), (by first | rfl | (simp; done) | (simp [*]; done)), H', ⟨by have := HJ2.out; first | omega | exact Nat.le_refl _⟩, ⟨by (with_reducible repeat (first | apply Kd.R_alloc | apply Kd.R_drewN | apply Kd.R_drew)); exact HO276.out⟩, ⟨by (with_reducible repeat (first | apply Kd.R_alloc | apply Kd.R_drewN | apply Kd.R_drew)); exact Kd.R_mono HO284.out (fun _ hk => trivial)⟩, ⟨by (with_reducible repeat (first | apply Kd.R_alloc | apply Kd.R_drewN | apply Kd.R_drew)); exact Kd.R_mono HO292.out (fun _ hk => trivial)⟩, ⟨by repeat (first | (with_reducible first | exact HB.out | apply below_alloc | apply pw_below_drewN | apply below_drew1) | exact HB.out)⟩⟩
          case rest =>
            as_aux_lemma =>
              clear HC16
              try clear c1
              try clear c2
              try clear p2
              try clear c3
              try clear c4
              try clear c5
              try clear c7
              try clear c26
              try clear c26b0
              try clear c26b1
              try clear c27
              try clear c27b0
              try clear c27b1
              try clear c29
              try clear c30
              try clear c30b0
              try clear c30b1
              try clear c31
              try clear c31b0
              try clear c31b1
              try clear c32
              try clear c32b0
              try clear c32b1
              try clear c34
              try clear c35
              try clear c35b0
              try clear c35b1
              try clear c36
              try clear c36b0
              try clear c36b1
              try clear p2
              obtain ⟨kq, x121_15, rfl, HA, HJ15, HO_6, HO_9, HO_13, HB⟩ := hcut
              cases kq with
              | zero => exact absurd HA.out (by simp [laws_FnHeapsTaken.j1])
              | succ kj15 =>
                have H := HA.out
                clear HA
                simp only [laws_FnHeapsTaken.j1] at H
                by_cases c61 : x121_15 = true
                · subst c61
                  have H1 : (some false) = some r := by rw [if_pos rfl] at H; exact H
                  clear H
                  have H := H1
                  clear H1
                  obtain rfl := Option.some.inj H
                  go_wp2
                  repeat (go_quiet (fail); try go_wp2)
                  go_ret
                  exact ⟨by first | rfl | (simp [errW_none, errW_some] <;> rfl) | (simp [*, errW_none, errW_some] <;> rfl), by repeat (first | (with_reducible first | exact HB.out | apply below_alloc | apply pw_below_drewN | apply below_drew1) | exact HB.out)⟩
                · replace c61 := Bool.eq_false_iff.mpr c61
                  subst c61
                  have H1 : (laws_FnHeapsTaken.l0 kj15 t273 t274 t281 t289 t295 t296 t297 0 0) = some r := by rw [if_neg (show ¬ (false = true) by decide)] at H; exact H
                  clear H
                  have H := H1
                  clear H1
                  have H' := Aside0.mk H
                  clear H
                  go_wp2
                  repeat (go_quiet (fail); try go_wp2)
                  go_loopg [21, 22] kj15 (fun kq v21 v22 w' => ∃ (x21_3 : Int) (x22_3 : Int), v21 = .int .u16 x21_3 ∧ v22 = .int .i64 x22_3 ∧ Aside0 (laws_FnHeapsTaken.l0 kq t273 t274 t281 t289 t295 t296 t297 x21_3 x22_3 = some r) ∧ Aside0 (kq ≤ kj15) ∧ Aside0 (Kd.R (Kd.int .i64) 2 w' w.heap.size (fun _ => True) (.slice Ao21 t274.length co21) t274) ∧ Aside0 (Kd.R (Kd.int .u16) 44 w' w.heap.size (fun _ => True) v283 t281) ∧ Aside0 (Kd.R k46 46 w' w.heap.size (fun _ => True) v291 t289) ∧ Aside0 (Below w.heap.size w w'))
                  case atStart => exact ⟨(0), (0), (by first | rfl | (simp; done) | (simp [*]; done)), (by first | rfl | (simp; done) | (simp [*]; done)), H', ⟨Nat.le_refl _⟩, ⟨by (with_reducible repeat (first | apply Kd.R_alloc | apply Kd.R_drewN | apply Kd.R_drew)); exact HO_6.out⟩, ⟨by (with_reducible repeat (first | apply Kd.R_alloc | apply Kd.R_drewN | apply Kd.R_drew)); exact HO_9.out⟩, ⟨by (with_reducible repeat (first | apply Kd.R_alloc | apply Kd.R_drewN | apply Kd.R_drew)); exact HO_13.out⟩, ⟨by repeat (first | (with_reducible first | exact HB.out | apply below_alloc | apply pw_below_drewN | apply below_drew1) | exact HB.out)⟩⟩
                  case round =>
                    as_aux_lemma =>
                      clear H'
                      try clear c1
                      try clear c2
                      try clear p2
                      try clear c3
                      try clear c4
                      try clear c5
                      try clear c6
                      try clear c7
                      try clear c26
                      try clear c26b0
                      try clear c26b1
                      try clear c27
                      try clear c27b0
                      try clear c27b1
                      try clear c29
                      try clear c30
                      try clear c30b0
                      try clear c30b1
                      try clear c31
                      try clear c31b0
                      try clear c31b1
                      try clear c32
                      try clear c32b0
                      try clear c32b1
                      try clear c34
                      try clear c35
                      try clear c35b0
                      try clear c35b1
                      try clear c36
                      try clear c36b0
                      try clear c36b1
                      try clear c61
                      try clear p2
                      obtain ⟨x21_3, x22_3, rfl, rfl, HA, HK3, HO_6, HO_9, HO_13, HB⟩ := hrel
                      cases gk with
                      | zero => exact absurd HA.out (by simp [laws_FnHeapsTaken.l0])
                      | succ k3 =>
                        have H := HA.out
                        clear HA
                        simp only [laws_FnHeapsTaken.l0] at H
                        by_cases c62 : x22_3 < (t274.length : Int)
                        · rw [if_pos c62] at H
                          have c62b0 : decide (x22_3 < (t274.length : Int)) = true := decide_eq_true c62
                          clear c62
                          by_cases c63 : 0 ≤ x22_3
                          · rw [if_pos c63] at H
                            have c63b0 : decide (0 ≤ x22_3) = true := decide_eq_true c63
                            clear c63
                            by_cases c64 : 0 ≤ (rd t274 x22_3)
                            · rw [if_pos c64] at H
                              have c64b0 : decide (0 ≤ (rd t274 x22_3)) = true := decide_eq_true c64
                              clear c64
                              by_cases c65 : (rd t274 x22_3) < (t281.length : Int)
                              · rw [if_pos c65] at H
                                have c65b0 : decide ((rd t274 x22_3) < (t281.length : Int)) = true := decide_eq_true c65
                                clear c65
                                replace H := Option.bind_eq_some_iff.mp H
                                obtain ⟨t303, A660, H⟩ := H
                                replace H : (laws_FnHeapsTaken.l0 k3 t273 t274 t281 t289 t295 t296 t297 t303 (wrap64 (x22_3 + 1))) = some r := H
                                have A66 := Aside0.mk A660
                                clear A660
                                have H' := Aside0.mk H
                                clear H
                                have p301 : 0 ≤ (x22_3 : Int) := of_decide_eq_true (by first | (with_reducible assumption) | assumption)
                                have q301 : x22_3 < (t274.length : Int) := of_decide_eq_true (by first | (with_reducible assumption) | assumption)
                                obtain ⟨ad301, e301, hx301_0⟩ := Kd.at_int (Kd.R_reads' HO_6.out).2.2 x22_3 p301 q301
                                cases e301
                                replace p301 := eq_true p301
                                replace q301 := eq_true q301
                                obtain ⟨Ao67, co67, eo67⟩ := Kd.R_slice HO_9.out
                                subst eo67
                                have p302 : 0 ≤ ((rd t274 x22_3) : Int) := of_decide_eq_true (by first | (with_reducible assumption) | assumption)
                                have q302 : (rd t274 x22_3) < (t281.length : Int) := of_decide_eq_true (by first | (with_reducible assumption) | assumption)
                                obtain ⟨ad302, e302, hx302_0⟩ := Kd.at_int (Kd.R_reads' HO_9.out).2.2 (rd t274 x22_3) p302 q302
                                cases e302
                                replace p302 := eq_true p302
                                replace q302 := eq_true q302
                                go_wp2_with (first | (go_at_call 27; (with_reducible refine (impl_PlusNim.calls x21_3 (rd t281 (rd t274 x22_3)) t303 _ A66.out).mono ?_); rintro e w' ⟨rfl, ⟨nd, rfl⟩⟩; (try first | exact ⟨rfl, _, World.drewN_drewN _ _ _⟩ | exact ⟨rfl, _, Eq.trans (World.drewN_drewN _ _ _) (congrArg (World.drewN _) (Nat.add_assoc _ _ _))⟩)))
                                repeat (go_quiet (first | (go_at_call 27; (with_reducible refine (impl_PlusNim.calls x21_3 (rd t281 (rd t274 x22_3)) t303 _ A66.out).mono ?_); rintro e w' ⟨rfl, ⟨nd, rfl⟩⟩; (try first | exact ⟨rfl, _, World.drewN_drewN _ _ _⟩ | exact ⟨rfl, _, Eq.trans (World.drewN_drewN _ _ _) (congrArg (World.drewN _) (Nat.add_assoc _ _ _))⟩))); try go_wp2_with (first | (go_at_call 27; (with_reducible refine (impl_PlusNim.calls x21_3 (rd t281 (rd t274 x22_3)) t303 _ A66.out).mono ?_); rintro e w' ⟨rfl, ⟨nd, rfl⟩⟩; (try first | exact ⟨rfl, _, World.drewN_drewN _ _ _⟩ | exact ⟨rfl, _, Eq.trans (World.drewN_drewN _ _ _) (congrArg (World.drewN _) (Nat.add_assoc _ _ _))⟩))))
                                go_roundg k3
                                case measure => have := HJ2.out; have := HJ15.out; have := HK3.out; omega
                                case rel => exact ⟨(t303), (wrap64 (x22_3 + 1)), (by first | rfl | (simp; done) | (simp [*]; done)), (by first | rfl | (simp; done) | (simp [*]; done)), H', ⟨by have := HJ2.out; have := HJ15.out; have := HK3.out; omega⟩, ⟨by (with_reducible repeat (first | apply Kd.R_alloc | apply Kd.R_drewN | apply Kd.R_drew)); exact HO_6.out⟩, ⟨by (with_reducible repeat (first | apply Kd.R_alloc | apply Kd.R_drewN | apply Kd.R_drew)); exact HO_9.out⟩, ⟨by (with_reducible repeat (first | apply Kd.R_alloc | apply Kd.R_drewN | apply Kd.R_drew)); exact HO_13.out⟩, ⟨by repeat (first | (with_reducible first | exact HB.out | apply below_alloc | apply pw_below_drewN | apply below_drew1) | exact HB.out)⟩⟩
                              · rw [if_neg c65] at H
                                exact absurd H (by simp)
                            · rw [if_neg c64] at H
                              exact absurd H (by simp)
                          · rw [if_neg c63] at H
                            exact absurd H (by simp)
                        · rw [if_neg c62] at H
                          have c62b0 : decide (x22_3 < (t274.length : Int)) = false := decide_eq_false c62
                          clear c62
                          by_cases c68 : ((decide ((t289.length : Int) > 0)) != (x21_3 != 0)) = true
                          · rw [if_pos c68] at H
                            have c68b0 : ((decide ((t289.length : Int) > 0)) != (x21_3 != 0)) = true := c68
                            (try (have c68b1 : decide ((decide ((t289.length : Int) > 0)) = (x21_3 != 0)) = false := by simpa using c68))
                            (try (have c68b2 : ((decide ((t289.length : Int) > 0)) == (x21_3 != 0)) = false := by simpa using c68))
                            (try (have c68b3 : ¬ ((decide ((t289.length : Int) > 0)) = (x21_3 != 0)) := by simpa using c68))
                            obtain ⟨v68, v68a⟩ : ∃ v_ : Bool, (x21_3 != 0) = v_ := ⟨_, rfl⟩
                            have v68b : (x21_3 == 0) = !v68 := by rw [← v68a]; simp [bne]
                            have v68c : decide ((t289.length : Int) > 0) = (!v68) := by rw [v68a] at c68b0; revert c68b0; cases decide ((t289.length : Int) > 0) <;> cases v68 <;> simp
                            have v68d : decide (0 < (t289.length : Int)) = (!v68) := v68c
                            have v68e : decide (0 < t289.length) = (!v68) := (decide_eq_decide.2 (by omega)).trans v68c
                            clear c68b0; (try clear c68b1); (try clear c68b2); (try clear c68b3)
                            clear c68
                            obtain rfl := Option.some.inj H
                            obtain ⟨Ao69, co69, eo69⟩ := Kd.R_slice HO_13.out
                            subst eo69
                            go_wp2
                            repeat (go_quiet (fail); try go_wp2)
                            go_ret
                            exact ⟨by first | rfl | (simp [errW_none, errW_some] <;> rfl) | (simp [*, errW_none, errW_some] <;> rfl), by repeat (first | (with_reducible first | exact HB.out | apply below_alloc | apply pw_below_drewN | apply below_drew1) | exact HB.out)⟩
                          · rw [if_neg c68] at H
                            have c68b0 : ((decide ((t289.length : Int) > 0)) != (x21_3 != 0)) = false := by simpa using c68
                            (try (have c68b1 : decide ((decide ((t289.length : Int) > 0)) = (x21_3 != 0)) = true := by simpa using c68))
                            (try (have c68b2 : ((decide ((t289.length : Int) > 0)) == (x21_3 != 0)) = true := by simpa using c68))
                            obtain ⟨v68, v68a⟩ : ∃ v_ : Bool, (x21_3 != 0) = v_ := ⟨_, rfl⟩
                            have v68b : (x21_3 == 0) = !v68 := by rw [← v68a]; simp [bne]
                            have v68c : decide ((t289.length : Int) > 0) = (v68) := by rw [v68a] at c68b0; revert c68b0; cases decide ((t289.length : Int) > 0) <;> cases v68 <;> simp
                            have v68d : decide (0 < (t289.length : Int)) = (v68) := v68c
                            have v68e : decide (0 < t289.length) = (v68) := (decide_eq_decide.2 (by omega)).trans v68c
                            clear c68b0; (try clear c68b1); (try clear c68b2); (try clear c68b3)
                            clear c68
                            have H' := Aside0.mk H
                            clear H
                            obtain ⟨Ao70, co70, eo70⟩ := Kd.R_slice HO_13.out
                            subst eo70
                            go_wp2
                            repeat (go_quiet (fail); try go_wp2)
                            go_loopg [23] k3 (fun kq v23 w' => ∃ (x23_4 : Int), v23 = .int .i64 x23_4 ∧ Aside0 (laws_FnHeapsTaken.l1 kq t273 t274 t281 t289 t295 t296 t297 x21_3 x23_4 = some r) ∧ Aside0 (kq ≤ k3) ∧ Aside0 (Kd.R (Kd.int .i64) 2 w' w.heap.size (fun _ => True) (.slice Ao21 t274.length co21) t274) ∧ Aside0 (Kd.R (Kd.int .u16) 44 w' w.heap.size (fun _ => True) v283 t281) ∧ Aside0 (Kd.R k46 46 w' w.heap.size (fun _ => True) (.slice Ao70 t289.length co70) t289) ∧ Aside0 (Below w.heap.size w w'))
                            case atStart => exact ⟨(0), (by first | rfl | (simp; done) | (simp [*]; done)), H', ⟨Nat.le_refl _⟩, ⟨by (with_reducible repeat (first | apply Kd.R_alloc | apply Kd.R_drewN | apply Kd.R_drew)); exact HO_6.out⟩, ⟨by (with_reducible repeat (first | apply Kd.R_alloc | apply Kd.R_drewN | apply Kd.R_drew)); exact HO_9.out⟩, ⟨by (with_reducible repeat (first | apply Kd.R_alloc | apply Kd.R_drewN | apply Kd.R_drew)); exact HO_13.out⟩, ⟨by repeat (first | (with_reducible first | exact HB.out | apply below_alloc | apply pw_below_drewN | apply below_drew1) | exact HB.out)⟩⟩
                            case round =>
                              as_aux_lemma =>
                                clear H'
                                try clear c1
                                try clear c2
                                try clear p2
                                try clear c3
                                try clear p3
                                try clear q3
                                try clear hx3
                                try clear c4
                                try clear c5
                                try clear c6
                                try clear p6
                                try clear c7
                                try clear c26
                                try clear c26b0
                                try clear c26b1
                                try clear c27
                                try clear c27b0
                                try clear c27b1
                                try clear c29
                                try clear c30
                                try clear c30b0
                                try clear c30b1
                                try clear p30
                                try clear q30
                                try clear hx30
                                try clear c31
                                try clear c31b0
                                try clear c31b1
                                try clear c32
                                try clear c32b0
                                try clear c32b1
                                try clear c34
                                try clear c35
                                try clear c35b0
                                try clear c35b1
                                try clear c36
                                try clear c36b0
                                try clear c36b1
                                try clear c61
                                try clear c62
                                try clear c62b0
                                try clear c63
                                try clear c63b0
                                try clear c64
                                try clear c64b0
                                try clear p64
                                try clear c65
                                try clear c65b0
                                try clear c68
                                try clear c68b0
                                try clear c68b1
                                try clear c68b2
                                try clear hx301_0
                                try clear hx302_0
                                try clear p2
                                try clear p301
                                try clear p302
                                try clear q301
                                try clear q302
                                obtain ⟨x23_4, rfl, HA, HK4, HO_6, HO_9, HO_13, HB⟩ := hrel
                                cases gk with
                                | zero => exact absurd HA.out (by simp [laws_FnHeapsTaken.l1])
                                | succ k4 =>
                                  have H := HA.out
                                  clear HA
                                  simp only [laws_FnHeapsTaken.l1] at H
                                  by_cases c71 : x23_4 < (t289.length : Int)
                                  · rw [if_pos c71] at H
                                    have c71b0 : decide (x23_4 < (t289.length : Int)) = true := decide_eq_true c71
                                    clear c71
                                    by_cases c72 : 0 ≤ x23_4
                                    · rw [if_pos c72] at H
                                      have c72b0 : decide (0 ≤ x23_4) = true := decide_eq_true c72
                                      clear c72
                                      have HC73 := Aside0.mk H
                                      clear H
                                      have p304 : 0 ≤ (x23_4 : Int) := of_decide_eq_true (by first | (with_reducible assumption) | assumption)
                                      have q304 : x23_4 < (t289.length : Int) := of_decide_eq_true (by first | (with_reducible assumption) | assumption)
                                      obtain ⟨ad304, e304, hx304_0, hx304_1⟩ := at_T46 (Kd.R_reads' HO_13.out).2.2 x23_4 p304 q304
                                      cases e304
                                      replace p304 := eq_true p304
                                      replace q304 := eq_true q304
                                      have p305 : 0 ≤ (x23_4 : Int) := of_decide_eq_true (by first | (with_reducible assumption) | assumption)
                                      have q305 : x23_4 < (t289.length : Int) := of_decide_eq_true (by first | (with_reducible assumption) | assumption)
                                      obtain ⟨ad305, e305, hx305_0, hx305_1⟩ := at_T46 (Kd.R_reads' HO_13.out).2.2 x23_4 p305 q305
                                      obtain rfl : ad304 = ad305 := (by injection e305)
                                      replace p305 := eq_true p305
                                      replace q305 := eq_true q305
                                      go_upto_region 25 with (fail)
                                      repeat (go_quiet (fail); go_upto_region 25 with (fail))
                                      go_cut [191] (fun v191 wc => ∃ (kq : Nat) (x191_72 : Bool), v191 = .bool x191_72 ∧ Aside0 (laws_FnHeapsTaken.j4 kq t273 t274 t281 t289 t295 t296 t297 x21_3 x23_4 ((rd_T46 t289 x23_4).f0) ((rd_T46 t289 x23_4).f1) x191_72 = some r) ∧ Aside0 (kq ≤ k4) ∧ Aside0 (Kd.R (Kd.int .i64) 2 wc w.heap.size (fun _ => True) (.slice Ao21 t274.length co21) t274) ∧ Aside0 (Kd.R (Kd.int .u16) 44 wc w.heap.size (fun _ => True) v283 t281) ∧ Aside0 (Kd.R k46 46 wc w.heap.size (fun _ => True) (.slice (some ad304) t289.length co70) t289) ∧ Aside0 (Below w.heap.size w wc))
                                      case first =>
                                        as_aux_lemma =>
                                          have H := HC73.out
                                          clear HC73
                                          by_cases c74 : ((rd_T46 t289 x23_4).f0) < 0
                                          · rw [if_pos c74] at H
                                            have c74b0 : decide (((rd_T46 t289 x23_4).f0) < 0) = true := decide_eq_true c74
                                            clear c74
                                            (first | rw [c74b0] | (simp only [i64_w, i32_w]; rw [c74b0]) | skip)
                                            have H' := Aside0.mk H
                                            clear H
                                            go_wp2
                                            repeat (go_quiet (fail); try go_wp2)
                                            go_meet
                                            case rel => exact ⟨_, (true), (by first | rfl | (simp; done) | (simp [*]; done)), H', ⟨by have := HJ2.out; have := HJ15.out; have := HK3.out; have := HK4.out; first | omega | exact Nat.le_refl _⟩, ⟨by (with_reducible repeat (first | apply Kd.R_alloc | apply Kd.R_drewN | apply Kd.R_drew)); exact HO_6.out⟩, ⟨by (with_reducible repeat (first | apply Kd.R_alloc | apply Kd.R_drewN | apply Kd.R_drew)); exact HO_9.out⟩, ⟨by (with_reducible repeat (first | apply Kd.R_alloc | apply Kd.R_drewN | apply Kd.R_drew)); exact HO_13.out⟩, ⟨by repeat (first | (with_reducible first | exact HB.out | apply below_alloc | apply pw_below_drewN | apply below_drew1) | exact HB.out)⟩⟩
                                          · rw [if_neg c74] at H
                                            have c74b0 : decide (((rd_T46 t289 x23_4).f0) < 0) = false := decide_eq_false c74
                                            clear c74
                                            (first | rw [c74b0] | (simp only [i64_w, i32_w]; rw [c74b0]) | skip)
                                            by_cases c75 : ((rd_T46 t289 x23_4).f0) ≥ (t274.length : Int)
                                            · rw [if_pos c75] at H
                                              have c75b0 : decide ((t274.length : Int) ≤ ((rd_T46 t289 x23_4).f0)) = true := decide_eq_true c75
                                              clear c75
                                              have H' := Aside0.mk H
                                              clear H
                                              go_wp2
                                              repeat (go_quiet (fail); try go_wp2)
                                              go_meet
                                              case rel => exact ⟨_, (true), (by first | rfl | (simp; done) | (simp [*]; done)), H', ⟨by have := HJ2.out; have := HJ15.out; have := HK3.out; have := HK4.out; first | omega | exact Nat.le_refl _⟩, ⟨by (with_reducible repeat (first | apply Kd.R_alloc | apply Kd.R_drewN | apply Kd.R_drew)); exact HO_6.out⟩, ⟨by (with_reducible repeat (first | apply Kd.R_alloc | apply Kd.R_drewN | apply Kd.R_drew)); exact HO_9.out⟩, ⟨by (with_reducible repeat (first | apply Kd.R_alloc | apply Kd.R_drewN | apply Kd.R_drew)); exact HO_13.out⟩, ⟨by repeat (first | (with_reducible first | exact HB.out | apply below_alloc | apply pw_below_drewN | apply below_drew1) | exact HB.out)⟩⟩
                                            · rw [if_neg c75] at H
                                              have c75b0 : decide ((t274.length : Int) ≤ ((rd_T46 t289 x23_4).f0)) = false := decide_eq_false c75
                                              clear c75
                                              by_cases c76 : ((rd_T46 t289 x23_4).f1) < 0
                                              · rw [if_pos c76] at H
                                                have c76b0 : decide (((rd_T46 t289 x23_4).f1) < 0) = true := decide_eq_true c76
                                                clear c76
                                                have H' := Aside0.mk H
                                                clear H
                                                go_wp2
                                                repeat (go_quiet (fail); try go_wp2)
                                                go_meet
                                                case rel => exact ⟨_, (true), (by first | rfl | (simp; done) | (simp [*]; done)), H', ⟨by have := HJ2.out; have := HJ15.out; have := HK3.out; have := HK4.out; first | omega | exact Nat.le_refl _⟩, ⟨by (with_reducible repeat (first | apply Kd.R_alloc | apply Kd.R_drewN | apply Kd.R_drew)); exact HO_6.out⟩, ⟨by (with_reducible repeat (first | apply Kd.R_alloc | apply Kd.R_drewN | apply Kd.R_drew)); exact HO_9.out⟩, ⟨by (with_reducible repeat (first | apply Kd.R_alloc | apply Kd.R_drewN | apply Kd.R_drew)); exact HO_13.out⟩, ⟨by repeat (first | (with_reducible first | exact HB.out | apply below_alloc | apply pw_below_drewN | apply below_drew1) | exact HB.out)⟩⟩
                                              · rw [if_neg c76] at H
                                                have c76b0 : decide (((rd_T46 t289 x23_4).f1) < 0) = false := decide_eq_false c76
                                                clear c76
                                                by_cases c77 : 0 ≤ ((rd_T46 t289 x23_4).f0)
                                                · rw [if_pos c77] at H
                                                  have c77b0 : decide (0 ≤ ((rd_T46 t289 x23_4).f0)) = true := decide_eq_true c77
                                                  clear c77
                                                  by_cases c78 : ((rd_T46 t289 x23_4).f0) < (t274.length : Int)
                                                  · rw [if_pos c78] at H
                                                    have c78b0 : decide (((rd_T46 t289 x23_4).f0) < (t274.length : Int)) = true := decide_eq_true c78
                                                    clear c78
                                                    by_cases c79 : ((rd_T46 t289 x23_4).f1) ≥ (rd t274 ((rd_T46 t289 x23_4).f0))
                                                    · rw [if_pos c79] at H
                                                      have c79b0 : decide ((rd t274 ((rd_T46 t289 x23_4).f0)) ≤ ((rd_T46 t289 x23_4).f1)) = true := decide_eq_true c79
                                                      clear c79
                                                      have H' := Aside0.mk H
                                                      clear H
                                                      have p306 : 0 ≤ (((rd_T46 t289 x23_4).f0) : Int) := of_decide_eq_true (by first | (with_reducible assumption) | assumption)
                                                      have q306 : ((rd_T46 t289 x23_4).f0) < (t274.length : Int) := of_decide_eq_true (by first | (with_reducible assumption) | assumption)
                                                      obtain ⟨ad306, e306, hx306_0⟩ := Kd.at_int (Kd.R_reads' HO_6.out).2.2 ((rd_T46 t289 x23_4).f0) p306 q306
                                                      cases e306
                                                      replace p306 := eq_true p306
                                                      replace q306 := eq_true q306
                                                      go_wp2
                                                      repeat (go_quiet (fail); try go_wp2)
                                                      go_meet
                                                      case rel => exact ⟨_, (true), (by first | rfl | (simp; done) | (simp [*]; done)), H', ⟨by have := HJ2.out; have := HJ15.out; have := HK3.out; have := HK4.out; first | omega | exact Nat.le_refl _⟩, ⟨by (with_reducible repeat (first | apply Kd.R_alloc | apply Kd.R_drewN | apply Kd.R_drew)); exact HO_6.out⟩, ⟨by (with_reducible repeat (first | apply Kd.R_alloc | apply Kd.R_drewN | apply Kd.R_drew)); exact HO_9.out⟩, ⟨by (with_reducible repeat (first | apply Kd.R_alloc | apply Kd.R_drewN | apply Kd.R_drew)); exact HO_13.out⟩, ⟨by repeat (first | (with_reducible first | exact HB.out | apply below_alloc | apply pw_below_drewN | apply below_drew1) | exact HB.out)⟩⟩
                                                    · rw [if_neg c79] at H
                                                      have c79b0 : decide ((rd t274 ((rd_T46 t289 x23_4).f0)) ≤ ((rd_T46 t289 x23_4).f1)) = false := decide_eq_false c79
                                                      clear c79
                                                      obtain ⟨ji80, hji80⟩ : ∃ j_ : Int, (IntKind.u64.wrap (wrap64 ((rd t274 ((rd_T46 t289 x23_4).f0)) - ((rd_T46 t289 x23_4).f1)))) = j_ := ⟨_, rfl⟩
                                                      replace H : (if 0 ≤ (ji80) then (laws_FnHeapsTaken.j4 k4 t273 t274 t281 t289 t295 t296 t297 x21_3 x23_4 ((rd_T46 t289 x23_4).f0) ((rd_T46 t289 x23_4).f1) ((Go.bits .and .u64 (shr .u64 t273 (ji80)) 1) == 0)) else (none)) = some r := by first | (rw [hji80] at H; exact H) | (simp only [hji80] at H ⊢; exact H)
                                                      by_cases c81 : 0 ≤ (ji80)
                                                      · rw [if_pos c81] at H
                                                        have c81b0 := eq_true c81
                                                        have c81b1 : decide (0 ≤ (ji80)) = true := decide_eq_true c81
                                                        clear c81
                                                        obtain ⟨ji82, hji82⟩ : ∃ j_ : Int, (shr .u64 t273 (ji80)) = j_ := ⟨_, rfl⟩
                                                        replace H : (laws_FnHeapsTaken.j4 k4 t273 t274 t281 t289 t295 t296 t297 x21_3 x23_4 ((rd_T46 t289 x23_4).f0) ((rd_T46 t289 x23_4).f1) ((Go.bits .and .u64 (ji82) 1) == 0)) = some r := by first | (rw [hji82] at H; exact H) | (simp only [hji82] at H ⊢; exact H)
                                                        have hji82_ : (t273 / 2 ^ min (ji80).toNat 64) = ji82 := hji82
                                                        have hji82z : (ji80) ≤ 64 → (t273 / 2 ^ (ji80).toNat) = ji82 := shr_small hji82
                                                        have H' := Aside0.mk H
                                                        clear H
                                                        have p306 : 0 ≤ (((rd_T46 t289 x23_4).f0) : Int) := of_decide_eq_true (by first | (with_reducible assumption) | assumption)
                                                        have q306 : ((rd_T46 t289 x23_4).f0) < (t274.length : Int) := of_decide_eq_true (by first | (with_reducible assumption) | assumption)
                                                        obtain ⟨ad306, e306, hx306_0⟩ := Kd.at_int (Kd.R_reads' HO_6.out).2.2 ((rd_T46 t289 x23_4).f0) p306 q306
                                                        cases e306
                                                        replace p306 := eq_true p306
                                                        replace q306 := eq_true q306
                                                        have p307 : 0 ≤ (((rd_T46 t289 x23_4).f0) : Int) := of_decide_eq_true (by first | (with_reducible assumption) | assumption)
                                                        have q307 : ((rd_T46 t289 x23_4).f0) < (t274.length : Int) := of_decide_eq_true (by first | (with_reducible assumption) | assumption)
                                                        obtain ⟨ad307, e307, hx307_0⟩ := Kd.at_int (Kd.R_reads' HO_6.out).2.2 ((rd_T46 t289 x23_4).f0) p307 q307
                                                        obtain rfl : ad306 = ad307 := (by injection e307)
                                                        replace p307 := eq_true p307
                                                        replace q307 := eq_true q307
                                                        go_wp2
                                                        repeat (go_quiet (fail); try go_wp2)
                                                        go_meet
                                                        case rel => exact ⟨_, (((Go.bits .and .u64 (ji82) 1) == 0)), (by first | rfl | (simp; done) | (simp only [← hji82] <;> (first | rfl | simp)) | (simp [*]; done)), H', ⟨by have := HJ2.out; have := HJ15.out; have := HK3.out; have := HK4.out; first | omega | exact Nat.le_refl _⟩, ⟨by (with_reducible repeat (first | apply Kd.R_alloc | apply Kd.R_drewN | apply Kd.R_drew)); exact HO_6.out⟩, ⟨by (with_reducible repeat (first | apply Kd.R_alloc | apply Kd.R_drewN | apply Kd.R_drew)); exact HO_9.out⟩, ⟨by (with_reducible repeat (first | apply Kd.R_alloc | apply Kd.R_drewN | apply Kd.R_drew)); exact HO_13.out⟩, ⟨by repeat (first | (with_reducible first | exact HB.out | apply below_alloc | apply pw_below_drewN | apply below_drew1) | exact HB.out)⟩⟩
                                                      · rw [if_neg c81] at H
                                                        exact absurd H (by simp)
                                                  · rw [if_neg c78] at H
                                                    exact absurd H (by simp)
                                                · rw [if_neg c77] at H
                                                  exact absurd H (by simp)
                                      case rest =>
                                        as_aux_lemma =>
                                          clear HC73
                                          try clear c1
                                          try clear c2
                                          try clear p2
                                          try clear c3
                                          try clear p3
                                          try clear q3
                                          try clear hx3
                                          try clear c4
                                          try clear c5
                                          try clear c6
                                          try clear p6
                                          try clear c7
                                          try clear c8
                                          try clear c26
                                          try clear c26b0
                                          try clear c26b1
                                          try clear c27
                                          try clear c27b0
                                          try clear c27b1
                                          try clear c29
                                          try clear c30
                                          try clear c30b0
                                          try clear c30b1
                                          try clear p30
                                          try clear q30
                                          try clear hx30
                                          try clear c31
                                          try clear c31b0
                                          try clear c31b1
                                          try clear c32
                                          try clear c32b0
                                          try clear c32b1
                                          try clear c34
                                          try clear c35
                                          try clear c35b0
                                          try clear c35b1
                                          try clear c36
                                          try clear c36b0
                                          try clear c36b1
                                          try clear c61
                                          try clear c62
                                          try clear c62b0
                                          try clear c63
                                          try clear c63b0
                                          try clear c64
                                          try clear c64b0
                                          try clear p64
                                          try clear c65
                                          try clear c65b0
                                          try clear c68
                                          try clear c68b0
                                          try clear c68b1
                                          try clear c68b2
                                          try clear c71
                                          try clear c71b0
                                          try clear c72
                                          try clear c72b0
                                          try clear c74
                                          try clear c74b0
                                          try clear c75
                                          try clear c75b0
                                          try clear c76
                                          try clear c76b0
                                          try clear c77
                                          try clear c77b0
                                          try clear c78
                                          try clear c78b0
                                          try clear c79
                                          try clear c79b0
                                          try clear c81
                                          try clear c81b0
                                          try clear c81b1
                                          try clear hx301_0
                                          try clear hx302_0
                                          try clear hx304_0
                                          try clear hx304_1
                                          try clear hx305_0
                                          try clear hx305_1
                                          try clear hx306_0
                                          try clear hx307_0
                                          try clear p2
                                          try clear p3
                                          try clear p30
                                          try clear p301
                                          try clear p302
                                          try clear p304
                                          try clear p305
                                          try clear p306
                                          try clear p307
                                          try clear p6
                                          try clear p64
                                          try clear q3
                                          try clear q30
                                          try clear q301
                                          try clear q302
                                          try clear q304
                                          try clear q305
                                          try clear q306
                                          try clear q307
                                          obtain ⟨kq, x191_72, rfl, HA, HJ72, HO_6, HO_9, HO_13, HB⟩ := hcut
                                          cases kq with
                                          | zero => exact absurd HA.out (by simp [laws_FnHeapsTaken.j4])
                                          | succ kj72 =>
                                            have H := HA.out
                                            clear HA
                                            simp only [laws_FnHeapsTaken.j4] at H
                                            by_cases c83 : x191_72 = true
                                            · subst c83
                                              have H1 : (some false) = some r := by rw [if_pos rfl] at H; exact H
                                              clear H
                                              have H := H1
                                              clear H1
                                              obtain rfl := Option.some.inj H
                                              go_wp2
                                              repeat (go_quiet (fail); try go_wp2)
                                              go_ret
                                              exact ⟨by first | rfl | (simp [errW_none, errW_some] <;> rfl) | (simp [*, errW_none, errW_some] <;> rfl), by repeat (first | (with_reducible first | exact HB.out | apply below_alloc | apply pw_below_drewN | apply below_drew1) | exact HB.out)⟩
                                            · replace c83 := Bool.eq_false_iff.mpr c83
                                              subst c83
                                              have H1 : (if 0 ≤ ((rd_T46 t289 x23_4).f0) then (if ((rd_T46 t289 x23_4).f0) < (t274.length : Int) then (if 0 ≤ (rd t274 ((rd_T46 t289 x23_4).f0)) then (if (rd t274 ((rd_T46 t289 x23_4).f0)) < (t281.length : Int) then (if 0 ≤ ((rd_T46 t289 x23_4).f1) then (if ((rd_T46 t289 x23_4).f1) < (t281.length : Int) then ((impl_PlusNim.f (rd t281 (rd t274 ((rd_T46 t289 x23_4).f0))) (rd t281 ((rd_T46 t289 x23_4).f1))).bind fun t311 => ((impl_PlusNim.f x21_3 t311).bind fun t312 => (if t312 = 0 then (laws_FnHeapsTaken.l1 kj72 t273 t274 t281 t289 t295 t296 t297 x21_3 (wrap64 (x23_4 + 1))) else (some false)))) else (none)) else (none)) else (none)) else (none)) else (none)) else (none)) = some r := by rw [if_neg (show ¬ (false = true) by decide)] at H; exact H
                                              clear H
                                              have H := H1
                                              clear H1
                                              by_cases c84 : 0 ≤ ((rd_T46 t289 x23_4).f0)
                                              · rw [if_pos c84] at H
                                                have c84b0 : decide (0 ≤ ((rd_T46 t289 x23_4).f0)) = true := decide_eq_true c84
                                                clear c84
                                                by_cases c85 : ((rd_T46 t289 x23_4).f0) < (t274.length : Int)
                                                · rw [if_pos c85] at H
                                                  have c85b0 : decide (((rd_T46 t289 x23_4).f0) < (t274.length : Int)) = true := decide_eq_true c85
                                                  clear c85
                                                  by_cases c86 : 0 ≤ (rd t274 ((rd_T46 t289 x23_4).f0))
                                                  · rw [if_pos c86] at H
                                                    have c86b0 : decide (0 ≤ (rd t274 ((rd_T46 t289 x23_4).f0))) = true := decide_eq_true c86
                                                    clear c86
                                                    by_cases c87 : (rd t274 ((rd_T46 t289 x23_4).f0)) < (t281.length : Int)
                                                    · rw [if_pos c87] at H
                                                      have c87b0 : decide ((rd t274 ((rd_T46 t289 x23_4).f0)) < (t281.length : Int)) = true := decide_eq_true c87
                                                      clear c87
                                                      by_cases c88 : 0 ≤ ((rd_T46 t289 x23_4).f1)
                                                      · rw [if_pos c88] at H
                                                        have c88b0 : decide (0 ≤ ((rd_T46 t289 x23_4).f1)) = true := decide_eq_true c88
                                                        clear c88
                                                        by_cases c89 : ((rd_T46 t289 x23_4).f1) < (t281.length : Int)
                                                        · rw [if_pos c89] at H
                                                          have c89b0 : decide (((rd_T46 t289 x23_4).f1) < (t281.length : Int)) = true := decide_eq_true c89
                                                          clear c89
                                                          replace H := Option.bind_eq_some_iff.mp H
                                                          obtain ⟨t311, A900, H⟩ := H
                                                          replace H : ((impl_PlusNim.f x21_3 t311).bind fun t312 => (if t312 = 0 then (laws_FnHeapsTaken.l1 kj72 t273 t274 t281 t289 t295 t296 t297 x21_3 (wrap64 (x23_4 + 1))) else (some false))) = some r := H
                                                          have A90 := Aside0.mk A900
                                                          clear A900
                                                          replace H := Option.bind_eq_some_iff.mp H
                                                          obtain ⟨t312, A910, H⟩ := H
                                                          replace H : (if t312 = 0 then (laws_FnHeapsTaken.l1 kj72 t273 t274 t281 t289 t295 t296 t297 x21_3 (wrap64 (x23_4 + 1))) else (some false)) = some r := H
                                                          have A91 := Aside0.mk A910
                                                          clear A910
                                                          by_cases c92 : t312 = 0
                                                          · rw [if_pos c92] at H
                                                            have c92b0 : (t312 == 0) = true := beq_iff_eq.mpr c92
                                                            have c92b1 : (t312 != 0) = false := bne_eq_false_iff_eq.mpr c92
                                                            clear c92
                                                            have H' := Aside0.mk H
                                                            clear H
                                                            have p308 : 0 ≤ (((rd_T46 t289 x23_4).f0) : Int) := of_decide_eq_true (by first | (with_reducible assumption) | assumption)
                                                            have q308 : ((rd_T46 t289 x23_4).f0) < (t274.length : Int) := of_decide_eq_true (by first | (with_reducible assumption) | assumption)
                                                            obtain ⟨ad308, e308, hx308_0⟩ := Kd.at_int (Kd.R_reads' HO_6.out).2.2 ((rd_T46 t289 x23_4).f0) p308 q308
                                                            cases e308
                                                            replace p308 := eq_true p308
                                                            replace q308 := eq_true q308
                                                            obtain ⟨Ao93, co93, eo93⟩ := Kd.R_slice HO_9.out
                                                            subst eo93
                                                            have p309 : 0 ≤ ((rd t274 ((rd_T46 t289 x23_4).f0)) : Int) := of_decide_eq_true (by first | (with_reducible assumption) | assumption)
                                                            have q309 : (rd t274 ((rd_T46 t289 x23_4).f0)) < (t281.length : Int) := of_decide_eq_true (by first | (with_reducible assumption) | assumption)
                                                            obtain ⟨ad309, e309, hx309_0⟩ := Kd.at_int (Kd.R_reads' HO_9.out).2.2 (rd t274 ((rd_T46 t289 x23_4).f0)) p309 q309
                                                            cases e309
                                                            replace p309 := eq_true p309
                                                            replace q309 := eq_true q309
                                                            have p310 : 0 ≤ (((rd_T46 t289 x23_4).f1) : Int) := of_decide_eq_true (by first | (with_reducible assumption) | assumption)
                                                            have q310 : ((rd_T46 t289 x23_4).f1) < (t281.length : Int) := of_decide_eq_true (by first | (with_reducible assumption) | assumption)
                                                            obtain ⟨ad310, e310, hx310_0⟩ := Kd.at_int (Kd.R_reads' HO_9.out).2.2 ((rd_T46 t289 x23_4).f1) p310 q310
                                                            obtain rfl : ad309 = ad310 := (by injection e310)
                                                            replace p310 := eq_true p310
                                                            replace q310 := eq_true q310
                                                            go_wp2_with (first | (go_at_call 27; (with_reducible refine (impl_PlusNim.calls (rd t281 (rd t274 ((rd_T46 t289 x23_4).f0))) (rd t281 ((rd_T46 t289 x23_4).f1)) t311 _ A90.out).mono ?_); rintro e w' ⟨rfl, ⟨nd, rfl⟩⟩; (try first | exact ⟨rfl, _, World.drewN_drewN _ _ _⟩ | exact ⟨rfl, _, Eq.trans (World.drewN_drewN _ _ _) (congrArg (World.drewN _) (Nat.add_assoc _ _ _))⟩)) | (go_at_call 27; (with_reducible refine (impl_PlusNim.calls x21_3 t311 t312 _ A91.out).mono ?_); rintro e w' ⟨rfl, ⟨nd, rfl⟩⟩; (try first | exact ⟨rfl, _, World.drewN_drewN _ _ _⟩ | exact ⟨rfl, _, Eq.trans (World.drewN_drewN _ _ _) (congrArg (World.drewN _) (Nat.add_assoc _ _ _))⟩)))
                                                            repeat (go_quiet (first | (go_at_call 27; (with_reducible refine (impl_PlusNim.calls (rd t281 (rd t274 ((rd_T46 t289 x23_4).f0))) (rd t281 ((rd_T46 t289 x23_4).f1)) t311 _ A90.out).mono ?_); rintro e w' ⟨rfl, ⟨nd, rfl⟩⟩; (try first | exact ⟨rfl, _, World.drewN_drewN _ _ _⟩ | exact ⟨rfl, _, Eq.trans (World.drewN_drewN _ _ _) (congrArg (World.drewN _) (Nat.add_assoc _ _ _))⟩)) | (go_at_call 27; (with_reducible refine (impl_PlusNim.calls x21_3 t311 t312 _ A91.out).mono ?_); rintro e w' ⟨rfl, ⟨nd, rfl⟩⟩; (try first | exact ⟨rfl, _, World.drewN_drewN _ _ _⟩ | exact ⟨rfl, _, Eq.trans (World.drewN_drewN _ _ _) (congrArg (World.drewN _) (Nat.add_assoc _ _ _))⟩))); try go_wp2_with (first | (go_at_call 27; (with_reducible refine (impl_PlusNim.calls (rd t281 (rd t274 ((rd_T46 t289 x23_4).f0))) (rd t281 ((rd_T46 t289 x23_4).f1)) t311 _ A90.out).mono ?_); rintro e w' ⟨rfl, ⟨nd, rfl⟩⟩; (try first | exact ⟨rfl, _, World.drewN_drewN _ _ _⟩ | exact ⟨rfl, _, Eq.trans (World.drewN_drewN _ _ _) (congrArg (World.drewN _) (Nat.add_assoc _ _ _))⟩)) | (go_at_call 27; (with_reducible refine (impl_PlusNim.calls x21_3 t311 t312 _ A91.out).mono ?_); rintro e w' ⟨rfl, ⟨nd, rfl⟩⟩; (try first | exact ⟨rfl, _, World.drewN_drewN _ _ _⟩ | exact ⟨rfl, _, Eq.trans (World.drewN_drewN _ _ _) (congrArg (World.drewN _) (Nat.add_assoc _ _ _))⟩))))
                                                            go_roundg kj72
                                                            case measure => have := HJ2.out; have := HJ15.out; have := HK3.out; have := HK4.out; have := HJ72.out; omega
                                                            case rel => exact ⟨(wrap64 (x23_4 + 1)), (by first | rfl | (simp; done) | (simp [*]; done)), H', ⟨by have := HJ2.out; have := HJ15.out; have := HK3.out; have := HK4.out; have := HJ72.out; omega⟩, ⟨by (with_reducible repeat (first | apply Kd.R_alloc | apply Kd.R_drewN | apply Kd.R_drew)); exact HO_6.out⟩, ⟨by (with_reducible repeat (first | apply Kd.R_alloc | apply Kd.R_drewN | apply Kd.R_drew)); exact HO_9.out⟩, ⟨by (with_reducible repeat (first | apply Kd.R_alloc | apply Kd.R_drewN | apply Kd.R_drew)); exact HO_13.out⟩, ⟨by repeat (first | (with_reducible first | exact HB.out | apply below_alloc | apply pw_below_drewN | apply below_drew1) | exact HB.out)⟩⟩
                                                          · rw [if_neg c92] at H
                                                            have c92b0 : (t312 == 0) = false := beq_eq_false_iff_ne.mpr c92
                                                            have c92b1 : (t312 != 0) = true := bne_iff_ne.mpr c92
                                                            obtain rfl := Option.some.inj H
                                                            have p308 : 0 ≤ (((rd_T46 t289 x23_4).f0) : Int) := of_decide_eq_true (by first | (with_reducible assumption) | assumption)
                                                            have q308 : ((rd_T46 t289 x23_4).f0) < (t274.length : Int) := of_decide_eq_true (by first | (with_reducible assumption) | assumption)
                                                            obtain ⟨ad308, e308, hx308_0⟩ := Kd.at_int (Kd.R_reads' HO_6.out).2.2 ((rd_T46 t289 x23_4).f0) p308 q308
                                                            cases e308
                                                            replace p308 := eq_true p308
                                                            replace q308 := eq_true q308
                                                            obtain ⟨Ao94, co94, eo94⟩ := Kd.R_slice HO_9.out
                                                            subst eo94
                                                            have p309 : 0 ≤ ((rd t274 ((rd_T46 t289 x23_4).f0)) : Int) := of_decide_eq_true (by first | (with_reducible assumption) | assumption)
                                                            have q309 : (rd t274 ((rd_T46 t289 x23_4).f0)) < (t281.length : Int) := of_decide_eq_true (by first | (with_reducible assumption) | assumption)
                                                            obtain ⟨ad309, e309, hx309_0⟩ := Kd.at_int (Kd.R_reads' HO_9.out).2.2 (rd t274 ((rd_T46 t289 x23_4).f0)) p309 q309
                                                            cases e309
                                                            replace p309 := eq_true p309
                                                            replace q309 := eq_true q309
                                                            have p310 : 0 ≤ (((rd_T46 t289 x23_4).f1) : Int) := of_decide_eq_true (by first | (with_reducible assumption) | assumption)
                                                            have q310 : ((rd_T46 t289 x23_4).f1) < (t281.length : Int) := of_decide_eq_true (by first | (with_reducible assumption) | assumption)
                                                            obtain ⟨ad310, e310, hx310_0⟩ := Kd.at_int (Kd.R_reads' HO_9.out).2.2 ((rd_T46 t289 x23_4).f1) p310 q310
                                                            obtain rfl : ad309 = ad310 := (by injection e310)
                                                            replace p310 := eq_true p310
                                                            replace q310 := eq_true q310
                                                            go_wp2_with (first | (go_at_call 27; (with_reducible refine (impl_PlusNim.calls (rd t281 (rd t274 ((rd_T46 t289 x23_4).f0))) (rd t281 ((rd_T46 t289 x23_4).f1)) t311 _ A90.out).mono ?_); rintro e w' ⟨rfl, ⟨nd, rfl⟩⟩; (try first | exact ⟨rfl, _, World.drewN_drewN _ _ _⟩ | exact ⟨rfl, _, Eq.trans (World.drewN_drewN _ _ _) (congrArg (World.drewN _) (Nat.add_assoc _ _ _))⟩)) | (go_at_call 27; (with_reducible refine (impl_PlusNim.calls x21_3 t311 t312 _ A91.out).mono ?_); rintro e w' ⟨rfl, ⟨nd, rfl⟩⟩; (try first | exact ⟨rfl, _, World.drewN_drewN _ _ _⟩ | exact ⟨rfl, _, Eq.trans (World.drewN_drewN _ _ _) (congrArg (World.drewN _) (Nat.add_assoc _ _ _))⟩)))
                                                            repeat (go_quiet (first | (go_at_call 27; (with_reducible refine (impl_PlusNim.calls (rd t281 (rd t274 ((rd_T46 t289 x23_4).f0))) (rd t281 ((rd_T46 t289 x23_4).f1)) t311 _ A90.out).mono ?_); rintro e w' ⟨rfl, ⟨nd, rfl⟩⟩; (try first | exact ⟨rfl, _, World.drewN_drewN _ _ _⟩ | exact ⟨rfl, _, Eq.trans (World.drewN_drewN _ _ _) (congrArg (World.drewN _) (Nat.add_assoc _ _ _))⟩)) | (go_at_call 27; (with_reducible refine (impl_PlusNim.calls x21_3 t311 t312 _ A91.out).mono ?_); rintro e w' ⟨rfl, ⟨nd, rfl⟩⟩; (try first | exact ⟨rfl, _, World.drewN_drewN _ _ _⟩ | exact ⟨rfl, _, Eq.trans (World.drewN_drewN _ _ _) (congrArg (World.drewN _) (Nat.add_assoc _ _ _))⟩))); try go_wp2_with (first | (go_at_call 27; (with_reducible refine (impl_PlusNim.calls (rd t281 (rd t274 ((rd_T46 t289 x23_4).f0))) (rd t281 ((rd_T46 t289 x23_4).f1)) t311 _ A90.out).mono ?_); rintro e w' ⟨rfl, ⟨nd, rfl⟩⟩; (try first | exact ⟨rfl, _, World.drewN_drewN _ _ _⟩ | exact ⟨rfl, _, Eq.trans (World.drewN_drewN _ _ _) (congrArg (World.drewN _) (Nat.add_assoc _ _ _))⟩)) | (go_at_call 27; (with_reducible refine (impl_PlusNim.calls x21_3 t311 t312 _ A91.out).mono ?_); rintro e w' ⟨rfl, ⟨nd, rfl⟩⟩; (try first | exact ⟨rfl, _, World.drewN_drewN _ _ _⟩ | exact ⟨rfl, _, Eq.trans (World.drewN_drewN _ _ _) (congrArg (World.drewN _) (Nat.add_assoc _ _ _))⟩))))
                                                            go_ret
                                                            exact ⟨by first | rfl | (simp [errW_none, errW_some] <;> rfl) | (simp [*, errW_none, errW_some] <;> rfl), by repeat (first | (with_reducible first | exact HB.out | apply below_alloc | apply pw_below_drewN | apply below_drew1) | exact HB.out)⟩
                                                        · rw [if_neg c89] at H
                                                          exact absurd H (by simp)
                                                      · rw [if_neg c88] at H
                                                        exact absurd H (by simp)
                                                    · rw [if_neg c87] at H
                                                      exact absurd H (by simp)
                                                  · rw [if_neg c86] at H
                                                    exact absurd H (by simp)
                                                · rw [if_neg c85] at H
                                                  exact absurd H (by simp)
                                              · rw [if_neg c84] at H
                                                exact absurd H (by simp)
                                    · rw [if_neg c72] at H
                                      exact absurd H (by simp)
                                  · rw [if_neg c71] at H
                                    have c71b0 : decide (x23_4 < (t289.length : Int)) = false := decide_eq_false c71
                                    clear c71
                                    by_cases c95 : t295 = 0
                                    · rw [if_pos c95] at H
                                      have c95b0 : (t295 == 0) = true := beq_iff_eq.mpr c95
                                      have c95b1 : (t295 != 0) = false := bne_eq_false_iff_eq.mpr c95
                                      clear c95
                                      by_cases c96 : (wrap64 (t296 + t297)) > 201
                                      · rw [if_pos c96] at H
                                        have c96b0 : decide (201 < (wrap64 (t296 + t297))) = true := decide_eq_true c96
                                        clear c96
                                        obtain rfl := Option.some.inj H
                                        go_wp2
                                        repeat (go_quiet (fail); try go_wp2)
                                        go_ret
                                        exact ⟨by first | rfl | (simp [errW_none, errW_some] <;> rfl) | (simp [*, errW_none, errW_some] <;> rfl), by repeat (first | (with_reducible first | exact HB.out | apply below_alloc | apply pw_below_drewN | apply below_drew1) | exact HB.out)⟩
                                      · rw [if_neg c96] at H
                                        have c96b0 : decide (201 < (wrap64 (t296 + t297))) = false := decide_eq_false c96
                                        clear c96
                                        replace H := Option.bind_eq_some_iff.mp H
                                        obtain ⟨⟨t313, t314⟩, A970, H⟩ := H
                                        replace H : ((spec_RepeatsFrom.f k4 t281 t296 t297).bind fun bt315 => (if t314 = bt315.2 then (if t314 = 0 then (if t313 = true then (some bt315.1) else (some false)) else (some false)) else (some false))) = some r := H
                                        have A97 := Aside0.mk A970
                                        clear A970
                                        replace H := Option.bind_eq_some_iff.mp H
                                        obtain ⟨⟨t315, t316⟩, A980, H⟩ := H
                                        replace H : (if t314 = t316 then (if t314 = 0 then (if t313 = true then (some t315) else (some false)) else (some false)) else (some false)) = some r := H
                                        have A98 := Aside0.mk A980
                                        clear A980
                                        by_cases c99 : t314 = t316
                                        · rw [if_pos c99] at H
                                          have c99b0 : (t314 == t316) = true := beq_iff_eq.mpr c99
                                          have c99b1 : (t314 != t316) = false := bne_eq_false_iff_eq.mpr c99
                                          clear c99
                                          by_cases c100 : t314 = 0
                                          · rw [if_pos c100] at H
                                            have c100b0 : (t314 == 0) = true := beq_iff_eq.mpr c100
                                            have c100b1 : (t314 != 0) = false := bne_eq_false_iff_eq.mpr c100
                                            clear c100
                                            by_cases c101 : t313 = true
                                            · subst c101
                                              have H1 : (some t315) = some r := by rw [if_pos rfl] at H; exact H
                                              clear H
                                              have H := H1
                                              clear H1
                                              obtain rfl := Option.some.inj H
                                              obtain ⟨Ao102, co102, eo102⟩ := Kd.R_slice HO_9.out
                                              subst eo102
                                              go_wp2_with (first | (go_at_call 28; (with_reducible refine (impl_RepeatsFrom.calls k4 _ _ t281 t296 t297 true t314 _ ?side1 ?side2 A97.out).mono ?_); (case side1 => repeat (first | exact (Kd.R_reads' HO_9.out).2.2 | (with_reducible refine Kd.C_alloc ?_ _) | (with_reducible refine Kd.C_drewN ?_ _) | (with_reducible refine Kd.C_drew ?_))); (case side2 => exact (Kd.R_reads' HO_9.out).2.1); rintro e w' ⟨rfl, ⟨nd, rfl⟩⟩; (try first | exact ⟨rfl, _, World.drewN_drewN _ _ _⟩ | exact ⟨rfl, _, Eq.trans (World.drewN_drewN _ _ _) (congrArg (World.drewN _) (Nat.add_assoc _ _ _))⟩)) | (go_at_call 29; (with_reducible refine (spec_RepeatsFrom.calls k4 _ _ t281 t296 t297 t315 t316 _ ?side1 ?side2 A98.out).mono ?_); (case side1 => repeat (first | exact (Kd.R_reads' HO_9.out).2.2 | (with_reducible refine Kd.C_alloc ?_ _) | (with_reducible refine Kd.C_drewN ?_ _) | (with_reducible refine Kd.C_drew ?_))); (case side2 => exact (Kd.R_reads' HO_9.out).2.1); rintro e w' ⟨rfl, ⟨nd, rfl⟩⟩; (try first | exact ⟨rfl, _, World.drewN_drewN _ _ _⟩ | exact ⟨rfl, _, Eq.trans (World.drewN_drewN _ _ _) (congrArg (World.drewN _) (Nat.add_assoc _ _ _))⟩)))
                                              repeat (go_quiet (first | (go_at_call 28; (with_reducible refine (impl_RepeatsFrom.calls k4 _ _ t281 t296 t297 true t314 _ ?side1 ?side2 A97.out).mono ?_); (case side1 => repeat (first | exact (Kd.R_reads' HO_9.out).2.2 | (with_reducible refine Kd.C_alloc ?_ _) | (with_reducible refine Kd.C_drewN ?_ _) | (with_reducible refine Kd.C_drew ?_))); (case side2 => exact (Kd.R_reads' HO_9.out).2.1); rintro e w' ⟨rfl, ⟨nd, rfl⟩⟩; (try first | exact ⟨rfl, _, World.drewN_drewN _ _ _⟩ | exact ⟨rfl, _, Eq.trans (World.drewN_drewN _ _ _) (congrArg (World.drewN _) (Nat.add_assoc _ _ _))⟩)) | (go_at_call 29; (with_reducible refine (spec_RepeatsFrom.calls k4 _ _ t281 t296 t297 t315 t316 _ ?side1 ?side2 A98.out).mono ?_); (case side1 => repeat (first | exact (Kd.R_reads' HO_9.out).2.2 | (with_reducible refine Kd.C_alloc ?_ _) | (with_reducible refine Kd.C_drewN ?_ _) | (with_reducible refine Kd.C_drew ?_))); (case side2 => exact (Kd.R_reads' HO_9.out).2.1); rintro e w' ⟨rfl, ⟨nd, rfl⟩⟩; (try first | exact ⟨rfl, _, World.drewN_drewN _ _ _⟩ | exact ⟨rfl, _, Eq.trans (World.drewN_drewN _ _ _) (congrArg (World.drewN _) (Nat.add_assoc _ _ _))⟩))); try go_wp2_with (first | (go_at_call 28; (with_reducible refine (impl_RepeatsFrom.calls k4 _ _ t281 t296 t297 true t314 _ ?side1 ?side2 A97.out).mono ?_); (case side1 => repeat (first | exact (Kd.R_reads' HO_9.out).2.2 | (with_reducible refine Kd.C_alloc ?_ _) | (with_reducible refine Kd.C_drewN ?_ _) | (with_reducible refine Kd.C_drew ?_))); (case side2 => exact (Kd.R_reads' HO_9.out).2.1); rintro e w' ⟨rfl, ⟨nd, rfl⟩⟩; (try first | exact ⟨rfl, _, World.drewN_drewN _ _ _⟩ | exact ⟨rfl, _, Eq.trans (World.drewN_drewN _ _ _) (congrArg (World.drewN _) (Nat.add_assoc _ _ _))⟩)) | (go_at_call 29; (with_reducible refine (spec_RepeatsFrom.calls k4 _ _ t281 t296 t297 t315 t316 _ ?side1 ?side2 A98.out).mono ?_); (case side1 => repeat (first | exact (Kd.R_reads' HO_9.out).2.2 | (with_reducible refine Kd.C_alloc ?_ _) | (with_reducible refine Kd.C_drewN ?_ _) | (with_reducible refine Kd.C_drew ?_))); (case side2 => exact (Kd.R_reads' HO_9.out).2.1); rintro e w' ⟨rfl, ⟨nd, rfl⟩⟩; (try first | exact ⟨rfl, _, World.drewN_drewN _ _ _⟩ | exact ⟨rfl, _, Eq.trans (World.drewN_drewN _ _ _) (congrArg (World.drewN _) (Nat.add_assoc _ _ _))⟩))))
                                              go_ret
                                              exact ⟨by first | rfl | (simp [errW_none, errW_some] <;> rfl) | (simp [*, errW_none, errW_some] <;> rfl), by repeat (first | (with_reducible first | exact HB.out | apply below_alloc | apply pw_below_drewN | apply below_drew1) | exact HB.out)⟩
                                            · replace c101 := Bool.eq_false_iff.mpr c101
                                              subst c101
                                              have H1 : (some false) = some r := by rw [if_neg (show ¬ (false = true) by decide)] at H; exact H
                                              clear H
                                              have H := H1
                                              clear H1
                                              obtain rfl := Option.some.inj H
                                              obtain ⟨Ao103, co103, eo103⟩ := Kd.R_slice HO_9.out
                                              subst eo103
                                              go_wp2_with (first | (go_at_call 28; (with_reducible refine (impl_RepeatsFrom.calls k4 _ _ t281 t296 t297 false t314 _ ?side1 ?side2 A97.out).mono ?_); (case side1 => repeat (first | exact (Kd.R_reads' HO_9.out).2.2 | (with_reducible refine Kd.C_alloc ?_ _) | (with_reducible refine Kd.C_drewN ?_ _) | (with_reducible refine Kd.C_drew ?_))); (case side2 => exact (Kd.R_reads' HO_9.out).2.1); rintro e w' ⟨rfl, ⟨nd, rfl⟩⟩; (try first | exact ⟨rfl, _, World.drewN_drewN _ _ _⟩ | exact ⟨rfl, _, Eq.trans (World.drewN_drewN _ _ _) (congrArg (World.drewN _) (Nat.add_assoc _ _ _))⟩)) | (go_at_call 29; (with_reducible refine (spec_RepeatsFrom.calls k4 _ _ t281 t296 t297 t315 t316 _ ?side1 ?side2 A98.out).mono ?_); (case side1 => repeat (first | exact (Kd.R_reads' HO_9.out).2.2 | (with_reducible refine Kd.C_alloc ?_ _) | (with_reducible refine Kd.C_drewN ?_ _) | (with_reducible refine Kd.C_drew ?_))); (case side2 => exact (Kd.R_reads' HO_9.out).2.1); rintro e w' ⟨rfl, ⟨nd, rfl⟩⟩; (try first | exact ⟨rfl, _, World.drewN_drewN _ _ _⟩ | exact ⟨rfl, _, Eq.trans (World.drewN_drewN _ _ _) (congrArg (World.drewN _) (Nat.add_assoc _ _ _))⟩)))
                                              repeat (go_quiet (first | (go_at_call 28; (with_reducible refine (impl_RepeatsFrom.calls k4 _ _ t281 t296 t297 false t314 _ ?side1 ?side2 A97.out).mono ?_); (case side1 => repeat (first | exact (Kd.R_reads' HO_9.out).2.2 | (with_reducible refine Kd.C_alloc ?_ _) | (with_reducible refine Kd.C_drewN ?_ _) | (with_reducible refine Kd.C_drew ?_))); (case side2 => exact (Kd.R_reads' HO_9.out).2.1); rintro e w' ⟨rfl, ⟨nd, rfl⟩⟩; (try first | exact ⟨rfl, _, World.drewN_drewN _ _ _⟩ | exact ⟨rfl, _, Eq.trans (World.drewN_drewN _ _ _) (congrArg (World.drewN _) (Nat.add_assoc _ _ _))⟩)) | (go_at_call 29; (with_reducible refine (spec_RepeatsFrom.calls k4 _ _ t281 t296 t297 t315 t316 _ ?side1 ?side2 A98.out).mono ?_); (case side1 => repeat (first | exact (Kd.R_reads' HO_9.out).2.2 | (with_reducible refine Kd.C_alloc ?_ _) | (with_reducible refine Kd.C_drewN ?_ _) | (with_reducible refine Kd.C_drew ?_))); (case side2 => exact (Kd.R_reads' HO_9.out).2.1); rintro e w' ⟨rfl, ⟨nd, rfl⟩⟩; (try first | exact ⟨rfl, _, World.drewN_drewN _ _ _⟩ | exact ⟨rfl, _, Eq.trans (World.drewN_drewN _ _ _) (congrArg (World.drewN _) (Nat.add_assoc _ _ _))⟩))); try go_wp2_with (first | (go_at_call 28; (with_reducible refine (impl_RepeatsFrom.calls k4 _ _ t281 t296 t297 false t314 _ ?side1 ?side2 A97.out).mono ?_); (case side1 => repeat (first | exact (Kd.R_reads' HO_9.out).2.2 | (with_reducible refine Kd.C_alloc ?_ _) | (with_reducible refine Kd.C_drewN ?_ _) | (with_reducible refine Kd.C_drew ?_))); (case side2 => exact (Kd.R_reads' HO_9.out).2.1); rintro e w' ⟨rfl, ⟨nd, rfl⟩⟩; (try first | exact ⟨rfl, _, World.drewN_drewN _ _ _⟩ | exact ⟨rfl, _, Eq.trans (World.drewN_drewN _ _ _) (congrArg (World.drewN _) (Nat.add_assoc _ _ _))⟩)) | (go_at_call 29; (with_reducible refine (spec_RepeatsFrom.calls k4 _ _ t281 t296 t297 t315 t316 _ ?side1 ?side2 A98.out).mono ?_); (case side1 => repeat (first | exact (Kd.R_reads' HO_9.out).2.2 | (with_reducible refine Kd.C_alloc ?_ _) | (with_reducible refine Kd.C_drewN ?_ _) | (with_reducible refine Kd.C_drew ?_))); (case side2 => exact (Kd.R_reads' HO_9.out).2.1); rintro e w' ⟨rfl, ⟨nd, rfl⟩⟩; (try first | exact ⟨rfl, _, World.drewN_drewN _ _ _⟩ | exact ⟨rfl, _, Eq.trans (World.drewN_drewN _ _ _) (congrArg (World.drewN _) (Nat.add_assoc _ _ _))⟩))))
                                              go_ret
                                              exact ⟨by first | rfl | (simp [errW_none, errW_some] <;> rfl) | (simp [*, errW_none, errW_some] <;> rfl), by repeat (first | (with_reducible first | exact HB.out | apply below_alloc | apply pw_below_drewN | apply below_drew1) | exact HB.out)⟩
                                          · rw [if_neg c100] at H
                                            have c100b0 : (t314 == 0) = false := beq_eq_false_iff_ne.mpr c100
                                            have c100b1 : (t314 != 0) = true := bne_iff_ne.mpr c100
                                            obtain rfl := Option.some.inj H
                                            obtain ⟨Ao104, co104, eo104⟩ := Kd.R_slice HO_9.out
                                            subst eo104
                                            go_wp2_with (first | (go_at_call 28; (with_reducible refine (impl_RepeatsFrom.calls k4 _ _ t281 t296 t297 t313 t314 _ ?side1 ?side2 A97.out).mono ?_); (case side1 => repeat (first | exact (Kd.R_reads' HO_9.out).2.2 | (with_reducible refine Kd.C_alloc ?_ _) | (with_reducible refine Kd.C_drewN ?_ _) | (with_reducible refine Kd.C_drew ?_))); (case side2 => exact (Kd.R_reads' HO_9.out).2.1); rintro e w' ⟨rfl, ⟨nd, rfl⟩⟩; (try first | exact ⟨rfl, _, World.drewN_drewN _ _ _⟩ | exact ⟨rfl, _, Eq.trans (World.drewN_drewN _ _ _) (congrArg (World.drewN _) (Nat.add_assoc _ _ _))⟩)) | (go_at_call 29; (with_reducible refine (spec_RepeatsFrom.calls k4 _ _ t281 t296 t297 t315 t316 _ ?side1 ?side2 A98.out).mono ?_); (case side1 => repeat (first | exact (Kd.R_reads' HO_9.out).2.2 | (with_reducible refine Kd.C_alloc ?_ _) | (with_reducible refine Kd.C_drewN ?_ _) | (with_reducible refine Kd.C_drew ?_))); (case side2 => exact (Kd.R_reads' HO_9.out).2.1); rintro e w' ⟨rfl, ⟨nd, rfl⟩⟩; (try first | exact ⟨rfl, _, World.drewN_drewN _ _ _⟩ | exact ⟨rfl, _, Eq.trans (World.drewN_drewN _ _ _) (congrArg (World.drewN _) (Nat.add_assoc _ _ _))⟩)))
                                            repeat (go_quiet (first | (go_at_call 28; (with_reducible refine (impl_RepeatsFrom.calls k4 _ _ t281 t296 t297 t313 t314 _ ?side1 ?side2 A97.out).mono ?_); (case side1 => repeat (first | exact (Kd.R_reads' HO_9.out).2.2 | (with_reducible refine Kd.C_alloc ?_ _) | (with_reducible refine Kd.C_drewN ?_ _) | (with_reducible refine Kd.C_drew ?_))); (case side2 => exact (Kd.R_reads' HO_9.out).2.1); rintro e w' ⟨rfl, ⟨nd, rfl⟩⟩; (try first | exact ⟨rfl, _, World.drewN_drewN _ _ _⟩ | exact ⟨rfl, _, Eq.trans (World.drewN_drewN _ _ _) (congrArg (World.drewN _) (Nat.add_assoc _ _ _))⟩)) | (go_at_call 29; (with_reducible refine (spec_RepeatsFrom.calls k4 _ _ t281 t296 t297 t315 t316 _ ?side1 ?side2 A98.out).mono ?_); (case side1 => repeat (first | exact (Kd.R_reads' HO_9.out).2.2 | (with_reducible refine Kd.C_alloc ?_ _) | (with_reducible refine Kd.C_drewN ?_ _) | (with_reducible refine Kd.C_drew ?_))); (case side2 => exact (Kd.R_reads' HO_9.out).2.1); rintro e w' ⟨rfl, ⟨nd, rfl⟩⟩; (try first | exact ⟨rfl, _, World.drewN_drewN _ _ _⟩ | exact ⟨rfl, _, Eq.trans (World.drewN_drewN _ _ _) (congrArg (World.drewN _) (Nat.add_assoc _ _ _))⟩))); try go_wp2_with (first | (go_at_call 28; (with_reducible refine (impl_RepeatsFrom.calls k4 _ _ t281 t296 t297 t313 t314 _ ?side1 ?side2 A97.out).mono ?_); (case side1 => repeat (first | exact (Kd.R_reads' HO_9.out).2.2 | (with_reducible refine Kd.C_alloc ?_ _) | (with_reducible refine Kd.C_drewN ?_ _) | (with_reducible refine Kd.C_drew ?_))); (case side2 => exact (Kd.R_reads' HO_9.out).2.1); rintro e w' ⟨rfl, ⟨nd, rfl⟩⟩; (try first | exact ⟨rfl, _, World.drewN_drewN _ _ _⟩ | exact ⟨rfl, _, Eq.trans (World.drewN_drewN _ _ _) (congrArg (World.drewN _) (Nat.add_assoc _ _ _))⟩)) | (go_at_call 29; (with_reducible refine (spec_RepeatsFrom.calls k4 _ _ t281 t296 t297 t315 t316 _ ?side1 ?side2 A98.out).mono ?_); (case side1 => repeat (first | exact (Kd.R_reads' HO_9.out).2.2 | (with_reducible refine Kd.C_alloc ?_ _) | (with_reducible refine Kd.C_drewN ?_ _) | (with_reducible refine Kd.C_drew ?_))); (case side2 => exact (Kd.R_reads' HO_9.out).2.1); rintro e w' ⟨rfl, ⟨nd, rfl⟩⟩; (try first | exact ⟨rfl, _, World.drewN_drewN _ _ _⟩ | exact ⟨rfl, _, Eq.trans (World.drewN_drewN _ _ _) (congrArg (World.drewN _) (Nat.add_assoc _ _ _))⟩))))
                                            go_ret
                                            exact ⟨by first | rfl | (simp [errW_none, errW_some] <;> rfl) | (simp [*, errW_none, errW_some] <;> rfl), by repeat (first | (with_reducible first | exact HB.out | apply below_alloc | apply pw_below_drewN | apply below_drew1) | exact HB.out)⟩
                                        · rw [if_neg c99] at H
                                          have c99b0 : (t314 == t316) = false := beq_eq_false_iff_ne.mpr c99
                                          have c99b1 : (t314 != t316) = true := bne_iff_ne.mpr c99
                                          obtain rfl := Option.some.inj H
                                          obtain ⟨Ao105, co105, eo105⟩ := Kd.R_slice HO_9.out
                                          subst eo105
                                          go_wp2_with (first | (go_at_call 28; (with_reducible refine (impl_RepeatsFrom.calls k4 _ _ t281 t296 t297 t313 t314 _ ?side1 ?side2 A97.out).mono ?_); (case side1 => repeat (first | exact (Kd.R_reads' HO_9.out).2.2 | (with_reducible refine Kd.C_alloc ?_ _) | (with_reducible refine Kd.C_drewN ?_ _) | (with_reducible refine Kd.C_drew ?_))); (case side2 => exact (Kd.R_reads' HO_9.out).2.1); rintro e w' ⟨rfl, ⟨nd, rfl⟩⟩; (try first | exact ⟨rfl, _, World.drewN_drewN _ _ _⟩ | exact ⟨rfl, _, Eq.trans (World.drewN_drewN _ _ _) (congrArg (World.drewN _) (Nat.add_assoc _ _ _))⟩)) | (go_at_call 29; (with_reducible refine (spec_RepeatsFrom.calls k4 _ _ t281 t296 t297 t315 t316 _ ?side1 ?side2 A98.out).mono ?_); (case side1 => repeat (first | exact (Kd.R_reads' HO_9.out).2.2 | (with_reducible refine Kd.C_alloc ?_ _) | (with_reducible refine Kd.C_drewN ?_ _) | (with_reducible refine Kd.C_drew ?_))); (case side2 => exact (Kd.R_reads' HO_9.out).2.1); rintro e w' ⟨rfl, ⟨nd, rfl⟩⟩; (try first | exact ⟨rfl, _, World.drewN_drewN _ _ _⟩ | exact ⟨rfl, _, Eq.trans (World.drewN_drewN _ _ _) (congrArg (World.drewN _) (Nat.add_assoc _ _ _))⟩)))
                                          repeat (go_quiet (first | (go_at_call 28; (with_reducible refine (impl_RepeatsFrom.calls k4 _ _ t281 t296 t297 t313 t314 _ ?side1 ?side2 A97.out).mono ?_); (case side1 => repeat (first | exact (Kd.R_reads' HO_9.out).2.2 | (with_reducible refine Kd.C_alloc ?_ _) | (with_reducible refine Kd.C_drewN ?_ _) | (with_reducible refine Kd.C_drew ?_))); (case side2 => exact (Kd.R_reads' HO_9.out).2.1); rintro e w' ⟨rfl, ⟨nd, rfl⟩⟩; (try first | exact ⟨rfl, _, World.drewN_drewN _ _ _⟩ | exact ⟨rfl, _, Eq.trans (World.drewN_drewN _ _ _) (congrArg (World.drewN _) (Nat.add_assoc _ _ _))⟩)) | (go_at_call 29; (with_reducible refine (spec_RepeatsFrom.calls k4 _ _ t281 t296 t297 t315 t316 _ ?side1 ?side2 A98.out).mono ?_); (case side1 => repeat (first | exact (Kd.R_reads' HO_9.out).2.2 | (with_reducible refine Kd.C_alloc ?_ _) | (with_reducible refine Kd.C_drewN ?_ _) | (with_reducible refine Kd.C_drew ?_))); (case side2 => exact (Kd.R_reads' HO_9.out).2.1); rintro e w' ⟨rfl, ⟨nd, rfl⟩⟩; (try first | exact ⟨rfl, _, World.drewN_drewN _ _ _⟩ | exact ⟨rfl, _, Eq.trans (World.drewN_drewN _ _ _) (congrArg (World.drewN _) (Nat.add_assoc _ _ _))⟩))); try go_wp2_with (first | (go_at_call 28; (with_reducible refine (impl_RepeatsFrom.calls k4 _ _ t281 t296 t297 t313 t314 _ ?side1 ?side2 A97.out).mono ?_); (case side1 => repeat (first | exact (Kd.R_reads' HO_9.out).2.2 | (with_reducible refine Kd.C_alloc ?_ _) | (with_reducible refine Kd.C_drewN ?_ _) | (with_reducible refine Kd.C_drew ?_))); (case side2 => exact (Kd.R_reads' HO_9.out).2.1); rintro e w' ⟨rfl, ⟨nd, rfl⟩⟩; (try first | exact ⟨rfl, _, World.drewN_drewN _ _ _⟩ | exact ⟨rfl, _, Eq.trans (World.drewN_drewN _ _ _) (congrArg (World.drewN _) (Nat.add_assoc _ _ _))⟩)) | (go_at_call 29; (with_reducible refine (spec_RepeatsFrom.calls k4 _ _ t281 t296 t297 t315 t316 _ ?side1 ?side2 A98.out).mono ?_); (case side1 => repeat (first | exact (Kd.R_reads' HO_9.out).2.2 | (with_reducible refine Kd.C_alloc ?_ _) | (with_reducible refine Kd.C_drewN ?_ _) | (with_reducible refine Kd.C_drew ?_))); (case side2 => exact (Kd.R_reads' HO_9.out).2.1); rintro e w' ⟨rfl, ⟨nd, rfl⟩⟩; (try first | exact ⟨rfl, _, World.drewN_drewN _ _ _⟩ | exact ⟨rfl, _, Eq.trans (World.drewN_drewN _ _ _) (congrArg (World.drewN _) (Nat.add_assoc _ _ _))⟩))))
                                          go_ret
                                          exact ⟨by first | rfl | (simp [errW_none, errW_some] <;> rfl) | (simp [*, errW_none, errW_some] <;> rfl), by repeat (first | (with_reducible first | exact HB.out | apply below_alloc | apply pw_below_drewN | apply below_drew1) | exact HB.out)⟩
                                    · rw [if_neg c95] at H
                                      have c95b0 : (t295 == 0) = false := beq_eq_false_iff_ne.mpr c95
                                      have c95b1 : (t295 != 0) = true := bne_iff_ne.mpr c95
                                      obtain rfl := Option.some.inj H
                                      go_wp2
                                      repeat (go_quiet (fail); try go_wp2)
                                      go_ret
                                      exact ⟨by first | rfl | (simp [errW_none, errW_some] <;> rfl) | (simp [*, errW_none, errW_some] <;> rfl), by repeat (first | (with_reducible first | exact HB.out | apply below_alloc | apply pw_below_drewN | apply below_drew1) | exact HB.out)⟩

/-- THE ONE PURE STATEMENT of laws_FnHeapsTaken: yours. -/
def laws_FnHeapsTaken.Pure : Prop := ∀ (l0 : List Int) (l1 : List Int), l0.length ≤ maxLen → l0.length * 1 ≤ 140737488351232 → (∀ x ∈ l0, (Lit.int .u8 x).wf = true) → l1.length ≤ maxLen → l1.length * 1 ≤ 140737488351232 → (∀ x ∈ l1, (Lit.int .u8 x).wf = true) → ∃ k, laws_FnHeapsTaken.f k l0 l1 = some true
theorem laws_FnHeapsTaken.walk (P : laws_FnHeapsTaken.Pure) (a0 : Option Addr) (len0 cap0 : Nat) (z0 : List Int) (a1 : Option Addr) (len1 cap1 : Nat) (z1 : List Int) (w : World) (w0 : (a0 = none ∧ len0 = 0 ∧ cap0 = 0 ∧ z0 = []) ∨ ∃ x, a0 = some x ∧ len0 ≤ cap0 ∧ cap0 ≤ maxLen ∧ z0.length = cap0 ∧ (∀ i, i < z0.length → w.cell? (x.add i) = some (.int .u8 (z0.getD i 0))) ∧ ∀ n ∈ z0, (Lit.int .u8 n).wf = true) (y0 : len0 * 1 ≤ 140737488351232) (w1 : (a1 = none ∧ len1 = 0 ∧ cap1 = 0 ∧ z1 = []) ∨ ∃ x, a1 = some x ∧ len1 ≤ cap1 ∧ cap1 ≤ maxLen ∧ z1.length = cap1 ∧ (∀ i, i < z1.length → w.cell? (x.add i) = some (.int .u8 (z1.getD i 0))) ∧ ∀ n ∈ z1, (Lit.int .u8 n).wf = true) (y1 : len1 * 1 ≤ 140737488351232) :
    Calls Try.prog 4 #[.slice a0 len0 cap0, .slice a1 len1 cap1] w fun e w' => e = .returned (.bool true) ∧ Below w.heap.size w w' := by
  obtain ⟨l0, rfl, hr0, hm0, hw0, hc0⟩ := ReadsInt.ofRowC w0
  obtain ⟨l1, rfl, hr1, hm1, hw1, hc1⟩ := ReadsInt.ofRowC w1
  obtain ⟨k, h⟩ := P l0 l1 hm0 y0 hw0 hm1 y1 hw1
  refine (laws_FnHeapsTaken.calls k _ _ l0 _ _ l1 true w (Kd.C_of_reads (d := (0 : Int)) (h1 := fun _ => rfl) hr0) hc0 (Kd.C_of_reads (d := (0 : Int)) (h1 := fun _ => rfl) hr1) hc1 h).mono ?_
  rintro e w' ⟨rfl, hd⟩
  exact ⟨rfl, hd⟩

end Go.Proofs.Yteinllalhiflcaa.QFnHeapsTaken
