/- Written by the session's own program (wip/myprint.py), for the law FnExactCountWinningTurns: each function as a plain Lean function, and its contract. -/
import Derived.Test.YtnicjjnghclgpaaDoorQFnExactCountWinningTurnsx0
import Derived.Test.YtnicjjnghclgpaaDoorQFnExactCountWinningTurnsx3
namespace Go.Proofs.YtnicjjnghclgpaaDoor.QFnExactCountWinningTurns
open Go.RowKit Go.Proofs.YtnicjjnghclgpaaDoorW.PrintWords Go.Proofs.YtnicjjnghclgpaaDoorW.PrintLast Go.Proofs.YtnicjjnghclgpaaDoorW.PrintMore
attribute [local go_sem] max2_int min2_int max_two min_two max_three min_three max_four min_four   -- for this text's walks alone
set_option linter.unusedVariables false
set_option linter.unusedSimpArgs false

/-! ### slices_partialInsertionSortOrdered_uint32: function 56 -/
mutual
def slices_partialInsertionSortOrdered_uint32.l0 : Nat → List Int → Int → Int → Int → Int → Option (Bool × List Int)
  | 0, _, _, _, _, _ => none
  | k + 1, x0, x1, x2, x7, x8 => if x8 < 5 then (slices_partialInsertionSortOrdered_uint32.l1 k x0 x1 x2 x7 x8) else (some (false, x0))
def slices_partialInsertionSortOrdered_uint32.j2 : Nat → List Int → Int → Int → Int → Int → Option (Bool × List Int)
  | 0, _, _, _, _, _ => none
  | k + 1, x0, x1, x2, x7, x8 => if x7 = x2 then (some (true, x0)) else (if (wrap64 (x2 - x1)) < 50 then (some (false, x0)) else (if 0 ≤ (wrap64 (x7 - 1)) then (if (wrap64 (x7 - 1)) < (x0.length : Int) then (if 0 ≤ x7 then (if x7 < (x0.length : Int) then ((some ((x0.set (x7 : Int).toNat (rd x0 (wrap64 (x7 - 1)))).set ((wrap64 (x7 - 1)) : Int).toNat (rd x0 x7) : List Int)).bind fun y189 => (if (wrap64 (x7 - x1)) ≥ 2 then (slices_partialInsertionSortOrdered_uint32.l2 k y189 x1 x2 x7 x8 (wrap64 (x7 - 1))) else (slices_partialInsertionSortOrdered_uint32.j4 k y189 x1 x2 x7 x8))) else (none)) else (none)) else (none)) else (none)))
def slices_partialInsertionSortOrdered_uint32.j4 : Nat → List Int → Int → Int → Int → Int → Option (Bool × List Int)
  | 0, _, _, _, _, _ => none
  | k + 1, x0, x1, x2, x7, x8 => if (wrap64 (x2 - x7)) ≥ 2 then (slices_partialInsertionSortOrdered_uint32.l3 k x0 x1 x2 x7 x8 (wrap64 (x7 + 1))) else (slices_partialInsertionSortOrdered_uint32.l0 k x0 x1 x2 x7 (wrap64 (x8 + 1)))
def slices_partialInsertionSortOrdered_uint32.l3 : Nat → List Int → Int → Int → Int → Int → Int → Option (Bool × List Int)
  | 0, _, _, _, _, _, _ => none
  | k + 1, x0, x1, x2, x7, x8, x10 => if x10 < x2 then (if 0 ≤ x10 then (if x10 < (x0.length : Int) then (if 0 ≤ (wrap64 (x10 - 1)) then (if (wrap64 (x10 - 1)) < (x0.length : Int) then ((cmp_Less_uint32.f (rd x0 x10) (rd x0 (wrap64 (x10 - 1)))).bind fun t199 => (if t199 = true then (slices_partialInsertionSortOrdered_uint32.l3 k ((x0.set (x10 : Int).toNat (rd x0 (wrap64 (x10 - 1)))).set ((wrap64 (x10 - 1)) : Int).toNat (rd x0 x10)) x1 x2 x7 x8 (wrap64 (x10 + 1))) else (slices_partialInsertionSortOrdered_uint32.l0 k x0 x1 x2 x7 (wrap64 (x8 + 1))))) else (none)) else (none)) else (none)) else (none)) else (slices_partialInsertionSortOrdered_uint32.l0 k x0 x1 x2 x7 (wrap64 (x8 + 1)))
def slices_partialInsertionSortOrdered_uint32.l2 : Nat → List Int → Int → Int → Int → Int → Int → Option (Bool × List Int)
  | 0, _, _, _, _, _, _ => none
  | k + 1, x0, x1, x2, x7, x8, x9 => if x9 ≥ 1 then (if 0 ≤ x9 then (if x9 < (x0.length : Int) then (if 0 ≤ (wrap64 (x9 - 1)) then (if (wrap64 (x9 - 1)) < (x0.length : Int) then ((cmp_Less_uint32.f (rd x0 x9) (rd x0 (wrap64 (x9 - 1)))).bind fun t192 => (if t192 = true then (slices_partialInsertionSortOrdered_uint32.l2 k ((x0.set (x9 : Int).toNat (rd x0 (wrap64 (x9 - 1)))).set ((wrap64 (x9 - 1)) : Int).toNat (rd x0 x9)) x1 x2 x7 x8 (wrap64 (x9 - 1))) else (slices_partialInsertionSortOrdered_uint32.j4 k x0 x1 x2 x7 x8))) else (none)) else (none)) else (none)) else (none)) else (slices_partialInsertionSortOrdered_uint32.j4 k x0 x1 x2 x7 x8)
def slices_partialInsertionSortOrdered_uint32.l1 : Nat → List Int → Int → Int → Int → Int → Option (Bool × List Int)
  | 0, _, _, _, _, _ => none
  | k + 1, x0, x1, x2, x7, x8 => if x7 < x2 then (if 0 ≤ x7 then (if x7 < (x0.length : Int) then (if 0 ≤ (wrap64 (x7 - 1)) then (if (wrap64 (x7 - 1)) < (x0.length : Int) then ((cmp_Less_uint32.f (rd x0 x7) (rd x0 (wrap64 (x7 - 1)))).bind fun t185 => (if t185 = true then (slices_partialInsertionSortOrdered_uint32.j2 k x0 x1 x2 x7 x8) else (slices_partialInsertionSortOrdered_uint32.l1 k x0 x1 x2 (wrap64 (x7 + 1)) x8))) else (none)) else (none)) else (none)) else (none)) else (slices_partialInsertionSortOrdered_uint32.j2 k x0 x1 x2 x7 x8)
end
def slices_partialInsertionSortOrdered_uint32.f (k : Nat) (l0 : List Int) (a1 : Int) (a2 : Int) : Option (Bool × List Int) := slices_partialInsertionSortOrdered_uint32.l0 k l0 a1 a2 (wrap64 (a1 + 1)) 0
theorem slices_partialInsertionSortOrdered_uint32.mono_l : ∀ k, (∀ y0 y1 y2 y3 y4, LeO (slices_partialInsertionSortOrdered_uint32.l0 k y0 y1 y2 y3 y4) (slices_partialInsertionSortOrdered_uint32.l0 (k + 1) y0 y1 y2 y3 y4)) ∧ (∀ y0 y1 y2 y3 y4, LeO (slices_partialInsertionSortOrdered_uint32.j2 k y0 y1 y2 y3 y4) (slices_partialInsertionSortOrdered_uint32.j2 (k + 1) y0 y1 y2 y3 y4)) ∧ (∀ y0 y1 y2 y3 y4, LeO (slices_partialInsertionSortOrdered_uint32.j4 k y0 y1 y2 y3 y4) (slices_partialInsertionSortOrdered_uint32.j4 (k + 1) y0 y1 y2 y3 y4)) ∧ (∀ y0 y1 y2 y3 y4 y5, LeO (slices_partialInsertionSortOrdered_uint32.l3 k y0 y1 y2 y3 y4 y5) (slices_partialInsertionSortOrdered_uint32.l3 (k + 1) y0 y1 y2 y3 y4 y5)) ∧ (∀ y0 y1 y2 y3 y4 y5, LeO (slices_partialInsertionSortOrdered_uint32.l2 k y0 y1 y2 y3 y4 y5) (slices_partialInsertionSortOrdered_uint32.l2 (k + 1) y0 y1 y2 y3 y4 y5)) ∧ (∀ y0 y1 y2 y3 y4, LeO (slices_partialInsertionSortOrdered_uint32.l1 k y0 y1 y2 y3 y4) (slices_partialInsertionSortOrdered_uint32.l1 (k + 1) y0 y1 y2 y3 y4))
  | 0 => ⟨fun _ _ _ _ _ r h => by simp [slices_partialInsertionSortOrdered_uint32.l0] at h, fun _ _ _ _ _ r h => by simp [slices_partialInsertionSortOrdered_uint32.j2] at h, fun _ _ _ _ _ r h => by simp [slices_partialInsertionSortOrdered_uint32.j4] at h, fun _ _ _ _ _ _ r h => by simp [slices_partialInsertionSortOrdered_uint32.l3] at h, fun _ _ _ _ _ _ r h => by simp [slices_partialInsertionSortOrdered_uint32.l2] at h, fun _ _ _ _ _ r h => by simp [slices_partialInsertionSortOrdered_uint32.l1] at h⟩
  | k + 1 => by
    obtain ⟨ih0, ih1, ih2, ih3, ih4, ih5⟩ := slices_partialInsertionSortOrdered_uint32.mono_l k
    refine ⟨?_, ?_, ?_, ?_, ?_, ?_⟩
    · intro y0 y1 y2 y3 y4
      unfold slices_partialInsertionSortOrdered_uint32.l0
      repeat' first
      | (with_reducible exact ih0 _ _ _ _ _)
      | (with_reducible exact ih1 _ _ _ _ _)
      | (with_reducible exact ih2 _ _ _ _ _)
      | (with_reducible exact ih3 _ _ _ _ _ _)
      | (with_reducible exact ih4 _ _ _ _ _ _)
      | (with_reducible exact ih5 _ _ _ _ _)
      | (with_reducible exact LeO.refl _)
      | (with_reducible exact LeO.none _)
      | (with_reducible refine LeO.ite ?_ ?_)
      | (with_reducible refine LeO.bind ?_ (fun _ => ?_))
      | exact ih0 _ _ _ _ _
      | exact ih1 _ _ _ _ _
      | exact ih2 _ _ _ _ _
      | exact ih3 _ _ _ _ _ _
      | exact ih4 _ _ _ _ _ _
      | exact ih5 _ _ _ _ _
      | exact LeO.none _
      | refine LeO.ite ?_ ?_
      | refine LeO.bind ?_ (fun _ => ?_)
    · intro y0 y1 y2 y3 y4
      unfold slices_partialInsertionSortOrdered_uint32.j2
      repeat' first
      | (with_reducible exact ih0 _ _ _ _ _)
      | (with_reducible exact ih1 _ _ _ _ _)
      | (with_reducible exact ih2 _ _ _ _ _)
      | (with_reducible exact ih3 _ _ _ _ _ _)
      | (with_reducible exact ih4 _ _ _ _ _ _)
      | (with_reducible exact ih5 _ _ _ _ _)
      | (with_reducible exact LeO.refl _)
      | (with_reducible exact LeO.none _)
      | (with_reducible refine LeO.ite ?_ ?_)
      | (with_reducible refine LeO.bind ?_ (fun _ => ?_))
      | exact ih0 _ _ _ _ _
      | exact ih1 _ _ _ _ _
      | exact ih2 _ _ _ _ _
      | exact ih3 _ _ _ _ _ _
      | exact ih4 _ _ _ _ _ _
      | exact ih5 _ _ _ _ _
      | exact LeO.none _
      | refine LeO.ite ?_ ?_
      | refine LeO.bind ?_ (fun _ => ?_)
    · intro y0 y1 y2 y3 y4
      unfold slices_partialInsertionSortOrdered_uint32.j4
      repeat' first
      | (with_reducible exact ih0 _ _ _ _ _)
      | (with_reducible exact ih1 _ _ _ _ _)
      | (with_reducible exact ih2 _ _ _ _ _)
      | (with_reducible exact ih3 _ _ _ _ _ _)
      | (with_reducible exact ih4 _ _ _ _ _ _)
      | (with_reducible exact ih5 _ _ _ _ _)
      | (with_reducible exact LeO.refl _)
      | (with_reducible exact LeO.none _)
      | (with_reducible refine LeO.ite ?_ ?_)
      | (with_reducible refine LeO.bind ?_ (fun _ => ?_))
      | exact ih0 _ _ _ _ _
      | exact ih1 _ _ _ _ _
      | exact ih2 _ _ _ _ _
      | exact ih3 _ _ _ _ _ _
      | exact ih4 _ _ _ _ _ _
      | exact ih5 _ _ _ _ _
      | exact LeO.none _
      | refine LeO.ite ?_ ?_
      | refine LeO.bind ?_ (fun _ => ?_)
    · intro y0 y1 y2 y3 y4 y5
      unfold slices_partialInsertionSortOrdered_uint32.l3
      repeat' first
      | (with_reducible exact ih0 _ _ _ _ _)
      | (with_reducible exact ih1 _ _ _ _ _)
      | (with_reducible exact ih2 _ _ _ _ _)
      | (with_reducible exact ih3 _ _ _ _ _ _)
      | (with_reducible exact ih4 _ _ _ _ _ _)
      | (with_reducible exact ih5 _ _ _ _ _)
      | (with_reducible exact LeO.refl _)
      | (with_reducible exact LeO.none _)
      | (with_reducible refine LeO.ite ?_ ?_)
      | (with_reducible refine LeO.bind ?_ (fun _ => ?_))
      | exact ih0 _ _ _ _ _
      | exact ih1 _ _ _ _ _
      | exact ih2 _ _ _ _ _
      | exact ih3 _ _ _ _ _ _
      | exact ih4 _ _ _ _ _ _
      | exact ih5 _ _ _ _ _
      | exact LeO.none _
      | refine LeO.ite ?_ ?_
      | refine LeO.bind ?_ (fun _ => ?_)
    · intro y0 y1 y2 y3 y4 y5
      unfold slices_partialInsertionSortOrdered_uint32.l2
      repeat' first
      | (with_reducible exact ih0 _ _ _ _ _)
      | (with_reducible exact ih1 _ _ _ _ _)
      | (with_reducible exact ih2 _ _ _ _ _)
      | (with_reducible exact ih3 _ _ _ _ _ _)
      | (with_reducible exact ih4 _ _ _ _ _ _)
      | (with_reducible exact ih5 _ _ _ _ _)
      | (with_reducible exact LeO.refl _)
      | (with_reducible exact LeO.none _)
      | (with_reducible refine LeO.ite ?_ ?_)
      | (with_reducible refine LeO.bind ?_ (fun _ => ?_))
      | exact ih0 _ _ _ _ _
      | exact ih1 _ _ _ _ _
      | exact ih2 _ _ _ _ _
      | exact ih3 _ _ _ _ _ _
      | exact ih4 _ _ _ _ _ _
      | exact ih5 _ _ _ _ _
      | exact LeO.none _
      | refine LeO.ite ?_ ?_
      | refine LeO.bind ?_ (fun _ => ?_)
    · intro y0 y1 y2 y3 y4
      unfold slices_partialInsertionSortOrdered_uint32.l1
      repeat' first
      | (with_reducible exact ih0 _ _ _ _ _)
      | (with_reducible exact ih1 _ _ _ _ _)
      | (with_reducible exact ih2 _ _ _ _ _)
      | (with_reducible exact ih3 _ _ _ _ _ _)
      | (with_reducible exact ih4 _ _ _ _ _ _)
      | (with_reducible exact ih5 _ _ _ _ _)
      | (with_reducible exact LeO.refl _)
      | (with_reducible exact LeO.none _)
      | (with_reducible refine LeO.ite ?_ ?_)
      | (with_reducible refine LeO.bind ?_ (fun _ => ?_))
      | exact ih0 _ _ _ _ _
      | exact ih1 _ _ _ _ _
      | exact ih2 _ _ _ _ _
      | exact ih3 _ _ _ _ _ _
      | exact ih4 _ _ _ _ _ _
      | exact ih5 _ _ _ _ _
      | exact LeO.none _
      | refine LeO.ite ?_ ?_
      | refine LeO.bind ?_ (fun _ => ?_)
theorem slices_partialInsertionSortOrdered_uint32.mono : ∀ a0 a1 a2 k, LeO (slices_partialInsertionSortOrdered_uint32.f k a0 a1 a2) (slices_partialInsertionSortOrdered_uint32.f (k + 1) a0 a1 a2) := by
  intro a0 a1 a2 k
  obtain ⟨ih0, ih1, ih2, ih3, ih4, ih5⟩ := slices_partialInsertionSortOrdered_uint32.mono_l k
  unfold slices_partialInsertionSortOrdered_uint32.f
  repeat' first
      | (with_reducible exact ih0 _ _ _ _ _)
      | (with_reducible exact ih1 _ _ _ _ _)
      | (with_reducible exact ih2 _ _ _ _ _)
      | (with_reducible exact ih3 _ _ _ _ _ _)
      | (with_reducible exact ih4 _ _ _ _ _ _)
      | (with_reducible exact ih5 _ _ _ _ _)
      | (with_reducible exact LeO.refl _)
      | (with_reducible exact LeO.none _)
      | (with_reducible refine LeO.ite ?_ ?_)
      | (with_reducible refine LeO.bind ?_ (fun _ => ?_))
      | exact ih0 _ _ _ _ _
      | exact ih1 _ _ _ _ _
      | exact ih2 _ _ _ _ _
      | exact ih3 _ _ _ _ _ _
      | exact ih4 _ _ _ _ _ _
      | exact ih5 _ _ _ _ _
      | exact LeO.none _
      | refine LeO.ite ?_ ?_
      | refine LeO.bind ?_ (fun _ => ?_)
def slices_partialInsertionSortOrdered_uint32.T5 : Bool × List (List Nat × List Nat) := (true, [([], []), ([], []), ([0, 1], [0, 1]), ([2], [2]), ([3], [3]), ([3], [3]), ([4, 5, 3], [3, 4, 5]), ([6, 3], [3, 6]), ([3], [3]), ([3], [3]), ([9, 3], [3, 9]), ([8, 10, 3], [3, 8, 10]), ([11, 3], [3, 11]), ([7, 12, 3, 3], [3, 7, 12]), ([13, 3], [3, 13]), ([3, 14], [3, 14])])
def slices_partialInsertionSortOrdered_uint32.B5 : List Nat := [0, 0, 3, 7, 15, 15, 63, 127, 15, 15, 527, 1807, 3855, 8191, 16383, 32767]
theorem slices_partialInsertionSortOrdered_uint32.tab5 : rtab .any (opsOf Tryd.f56 5) = slices_partialInsertionSortOrdered_uint32.T5 := by kernel_rfl
theorem slices_partialInsertionSortOrdered_uint32.bits5 : waitsOk slices_partialInsertionSortOrdered_uint32.T5.2 slices_partialInsertionSortOrdered_uint32.B5 = true := by kernel_rfl
def slices_partialInsertionSortOrdered_uint32.T11 : Bool × List (List Nat × List Nat) := (true, [([], []), ([], []), ([], []), ([], []), ([3], [3]), ([], []), ([], []), ([6], [6]), ([5, 7], [5, 7]), ([8], [8]), ([], []), ([], []), ([10, 11], [10, 11]), ([12], [12]), ([0, 1, 0, 1, 5, 6, 7, 8, 9, 13], [0, 1]), ([14, 9, 0, 1, 5, 6, 7, 8, 9, 13], [9, 14]), ([2, 4, 0, 1, 2, 3, 4, 5, 6, 7, 8, 9, 10, 11, 12, 13, 14, 15], [2, 4]), ([16, 13, 15, 0, 1, 2, 3, 4, 5, 6, 7, 8, 9, 10, 11, 12, 13, 14, 15], [13, 16])])
def slices_partialInsertionSortOrdered_uint32.B11 : List Nat := [0, 0, 0, 0, 8, 0, 0, 64, 224, 480, 0, 0, 3072, 7168, 16355, 32739, 65535, 131071]
theorem slices_partialInsertionSortOrdered_uint32.tab11 : rtab .any (opsOf Tryd.f56 11) = slices_partialInsertionSortOrdered_uint32.T11 := by kernel_rfl
theorem slices_partialInsertionSortOrdered_uint32.bits11 : waitsOk slices_partialInsertionSortOrdered_uint32.T11.2 slices_partialInsertionSortOrdered_uint32.B11 = true := by kernel_rfl
def slices_partialInsertionSortOrdered_uint32.T16 : Bool × List (List Nat × List Nat) := (true, [([], []), ([], []), ([0, 1], [0, 1]), ([2], [2]), ([], []), ([], []), ([5], [5]), ([4, 6], [4, 6]), ([7], [7]), ([3, 8], [3, 8]), ([9], [9])])
def slices_partialInsertionSortOrdered_uint32.B16 : List Nat := [0, 0, 3, 7, 0, 0, 32, 112, 240, 511, 1023]
theorem slices_partialInsertionSortOrdered_uint32.tab16 : rtab .any (opsOf Tryd.f56 16) = slices_partialInsertionSortOrdered_uint32.T16 := by kernel_rfl
theorem slices_partialInsertionSortOrdered_uint32.bits16 : waitsOk slices_partialInsertionSortOrdered_uint32.T16.2 slices_partialInsertionSortOrdered_uint32.B16 = true := by kernel_rfl
def slices_partialInsertionSortOrdered_uint32.T17 : Bool × List (List Nat × List Nat) := (true, [([], []), ([], []), ([], []), ([], []), ([3], [3]), ([], []), ([], []), ([6], [6]), ([5, 7], [5, 7]), ([8], [8]), ([], []), ([], []), ([10, 11], [10, 11]), ([12], [12]), ([0, 1, 0, 1, 5, 6, 7, 8, 9, 13], [0, 1]), ([14, 9, 0, 1, 5, 6, 7, 8, 9, 13], [9, 14]), ([2, 4, 0, 1, 2, 3, 4, 5, 6, 7, 8, 9, 10, 11, 12, 13, 14, 15], [2, 4]), ([16, 13, 15, 0, 1, 2, 3, 4, 5, 6, 7, 8, 9, 10, 11, 12, 13, 14, 15], [13, 16])])
def slices_partialInsertionSortOrdered_uint32.B17 : List Nat := [0, 0, 0, 0, 8, 0, 0, 64, 224, 480, 0, 0, 3072, 7168, 16355, 32739, 65535, 131071]
theorem slices_partialInsertionSortOrdered_uint32.tab17 : rtab .any (opsOf Tryd.f56 17) = slices_partialInsertionSortOrdered_uint32.T17 := by kernel_rfl
theorem slices_partialInsertionSortOrdered_uint32.bits17 : waitsOk slices_partialInsertionSortOrdered_uint32.T17.2 slices_partialInsertionSortOrdered_uint32.B17 = true := by kernel_rfl
def slices_partialInsertionSortOrdered_uint32.T22 : Bool × List (List Nat × List Nat) := (true, [([], []), ([], []), ([0, 1], [0, 1]), ([2], [2]), ([], []), ([], []), ([5], [5]), ([4, 6], [4, 6]), ([7], [7]), ([3, 8], [3, 8]), ([9], [9])])
def slices_partialInsertionSortOrdered_uint32.B22 : List Nat := [0, 0, 3, 7, 0, 0, 32, 112, 240, 511, 1023]
theorem slices_partialInsertionSortOrdered_uint32.tab22 : rtab .any (opsOf Tryd.f56 22) = slices_partialInsertionSortOrdered_uint32.T22 := by kernel_rfl
theorem slices_partialInsertionSortOrdered_uint32.bits22 : waitsOk slices_partialInsertionSortOrdered_uint32.T22.2 slices_partialInsertionSortOrdered_uint32.B22 = true := by kernel_rfl
def slices_partialInsertionSortOrdered_uint32.T23 : Bool × List (List Nat × List Nat) := (true, [([], []), ([], []), ([], []), ([], []), ([3], [3]), ([], []), ([], []), ([6], [6]), ([5, 7], [5, 7]), ([8], [8]), ([], []), ([], []), ([10, 11], [10, 11]), ([12], [12]), ([0, 1, 0, 1, 5, 6, 7, 8, 9, 13], [0, 1]), ([14, 9, 0, 1, 5, 6, 7, 8, 9, 13], [9, 14]), ([2, 4, 0, 1, 2, 3, 4, 5, 6, 7, 8, 9, 10, 11, 12, 13, 14, 15], [2, 4]), ([16, 13, 15, 0, 1, 2, 3, 4, 5, 6, 7, 8, 9, 10, 11, 12, 13, 14, 15], [13, 16])])
def slices_partialInsertionSortOrdered_uint32.B23 : List Nat := [0, 0, 0, 0, 8, 0, 0, 64, 224, 480, 0, 0, 3072, 7168, 16355, 32739, 65535, 131071]
theorem slices_partialInsertionSortOrdered_uint32.tab23 : rtab .any (opsOf Tryd.f56 23) = slices_partialInsertionSortOrdered_uint32.T23 := by kernel_rfl
theorem slices_partialInsertionSortOrdered_uint32.bits23 : waitsOk slices_partialInsertionSortOrdered_uint32.T23.2 slices_partialInsertionSortOrdered_uint32.B23 = true := by kernel_rfl
set_option maxHeartbeats 8000000 in
set_option maxRecDepth 100000 in
theorem slices_partialInsertionSortOrdered_uint32.calls (k : Nat) (P0_ : Nat → Prop) (u9000_ : Value) (l0 : List Int) (a1 : Int) (a2 : Int) (r1 : Bool) (r2 : List Int) (w0 w : World) (hB : Below w0.heap.size w0 w) (ho0 : Kd.R (Kd.int .u32) 33 w w0.heap.size P0_ u9000_ l0) (h : slices_partialInsertionSortOrdered_uint32.f k l0 a1 a2 = some (r1, r2)) :
    Calls Tryd.prog 56 #[u9000_, .int .i64 a1, .int .i64 a2] w fun e w' => e = .returned (.bool r1) ∧ Kd.R (Kd.int .u32) 33 w' w0.heap.size (fun k_ => (P0_ k_ ∨ w.heap.size ≤ k_)) u9000_ r2 ∧ Below w0.heap.size w0 w' ∧ Kept w w' (fun k_ => P0_ k_) := by
  have HO0 := Aside0.mk (show Kd.R (Kd.int .u32) 33 w w0.heap.size (fun k_ => (P0_ k_ ∨ w.heap.size ≤ k_)) u9000_ l0 from Kd.R_mono ho0 (fun k_ hk => (.inl hk)))
  have HK := Aside0.mk (Kept.refl w (fun k_ => P0_ k_))
  have HW0 := Aside0.mk hB.size
  have HB := Aside0.mk hB
  clear hB
  have H : (slices_partialInsertionSortOrdered_uint32.l0 k l0 a1 a2 (wrap64 (a1 + 1)) 0) = some (r1, r2) := h
  clear h
  have H' := Aside0.mk H
  clear H
  go_enter Tryd.func56, Tryd.ntmps56
  go_wp2
  go_loopg [7, 8] k (fun kq v7 v8 w' => ∃ (x0_1 : List Int) (x7_1 : Int) (x8_1 : Int), v7 = .int .i64 x7_1 ∧ v8 = .int .i64 x8_1 ∧ Aside0 (slices_partialInsertionSortOrdered_uint32.l0 kq x0_1 a1 a2 x7_1 x8_1 = some (r1, r2)) ∧ Aside0 (kq ≤ k) ∧ Aside0 (Kd.R (Kd.int .u32) 33 w' w0.heap.size (fun k_ => (P0_ k_ ∨ w.heap.size ≤ k_)) u9000_ x0_1) ∧ Aside0 (Kept w w' (fun k_ => P0_ k_)) ∧ Aside0 (Below w0.heap.size w0 w'))
  case atStart => exact ⟨(l0), (wrap64 (a1 + 1)), (0), (by first | rfl | (simp; done) | (simp [*]; done)), (by first | rfl | (simp; done) | (simp [*]; done)), H', ⟨Nat.le_refl _⟩, ⟨by (with_reducible repeat (first | apply Kd.R_alloc | apply Kd.R_drewN | apply Kd.R_drew)); exact HO0.out⟩, ⟨by repeat (first | (with_reducible first | exact HK.out | apply Kept.alloc | apply Kept.drewN | apply Kept.drew) | exact HK.out)⟩, ⟨by repeat (first | (with_reducible first | exact HB.out | apply below_alloc | apply pw_below_drewN | apply below_drew1) | exact HB.out)⟩⟩
  case round =>
    clear H'
    try clear p2
    obtain ⟨x0_1, x7_1, x8_1, rfl, rfl, HA, HK1, HO_0, HK, HB⟩ := hrel
    cases gk with
    | zero => exact absurd HA.out (by simp [slices_partialInsertionSortOrdered_uint32.l0])
    | succ k1 =>
      have H := HA.out
      clear HA
      simp only [slices_partialInsertionSortOrdered_uint32.l0] at H
      by_cases c4 : x8_1 < 5
      · rw [if_pos c4] at H
        have c4b0 : decide (x8_1 < 5) = true := decide_eq_true c4
        clear c4
        have HC5 := Aside0.mk H
        clear H
        go_upto_block 2 with (fail)
        go_cut [7] (fun v7 wc => ∃ (kq : Nat) (x7_4 : Int), v7 = .int .i64 x7_4 ∧ Aside0 (slices_partialInsertionSortOrdered_uint32.j2 kq x0_1 a1 a2 x7_4 x8_1 = some (r1, r2)) ∧ Aside0 (kq ≤ k1) ∧ Aside0 (Kd.R (Kd.int .u32) 33 wc w0.heap.size (fun k_ => (P0_ k_ ∨ w.heap.size ≤ k_)) u9000_ x0_1) ∧ Aside0 (Kept w wc (fun k_ => P0_ k_)) ∧ Aside0 (Below w0.heap.size w0 wc))
        case first =>
          have H := HC5.out
          clear HC5
          have H' := Aside0.mk H
          clear H
          go_wp2
          go_loopg [7] k1 (fun kq v7 w' => ∃ (x7_2 : Int), v7 = .int .i64 x7_2 ∧ Aside0 (slices_partialInsertionSortOrdered_uint32.l1 kq x0_1 a1 a2 x7_2 x8_1 = some (r1, r2)) ∧ Aside0 (kq ≤ k1) ∧ Aside0 (Kd.R (Kd.int .u32) 33 w' w0.heap.size (fun k_ => (P0_ k_ ∨ w.heap.size ≤ k_)) u9000_ x0_1) ∧ Aside0 (Kept w w' (fun k_ => P0_ k_)) ∧ Aside0 (Below w0.heap.size w0 w'))
          case atStart => exact ⟨(x7_1), (by first | rfl | (simp; done) | (simp [*]; done)), H', ⟨Nat.le_refl _⟩, ⟨by (with_reducible repeat (first | apply Kd.R_alloc | apply Kd.R_drewN | apply Kd.R_drew)); exact HO_0.out⟩, ⟨by repeat (first | (with_reducible first | exact HK.out | apply Kept.alloc | apply Kept.drewN | apply Kept.drew) | exact HK.out)⟩, ⟨by repeat (first | (with_reducible first | exact HB.out | apply below_alloc | apply pw_below_drewN | apply below_drew1) | exact HB.out)⟩⟩
          case round =>
            clear H'
            try clear p2
            try clear c4
            try clear c4b0
            try clear c5
            try clear p2
            obtain ⟨x7_2, rfl, HA, HK2, HO_0, HK, HB⟩ := hrel
            cases gk with
            | zero => exact absurd HA.out (by simp [slices_partialInsertionSortOrdered_uint32.l1])
            | succ k2 =>
              have H := HA.out
              clear HA
              simp only [slices_partialInsertionSortOrdered_uint32.l1] at H
              by_cases c6 : x7_2 < a2
              · rw [if_pos c6] at H
                have c6b0 : decide (x7_2 < a2) = true := decide_eq_true c6
                clear c6
                (first | rw [c6b0] | (simp only [i64_w, i32_w]; rw [c6b0]) | skip)
                by_cases c7 : 0 ≤ x7_2
                · rw [if_pos c7] at H
                  have c7b0 : decide (0 ≤ x7_2) = true := decide_eq_true c7
                  clear c7
                  by_cases c8 : x7_2 < (x0_1.length : Int)
                  · rw [if_pos c8] at H
                    have c8b0 : decide (x7_2 < (x0_1.length : Int)) = true := decide_eq_true c8
                    clear c8
                    obtain ⟨ji9, hji9⟩ : ∃ j_ : Int, (wrap64 (x7_2 - 1)) = j_ := ⟨_, rfl⟩
                    replace H : (if 0 ≤ (ji9) then (if (ji9) < (x0_1.length : Int) then ((cmp_Less_uint32.f (rd x0_1 x7_2) (rd x0_1 (ji9))).bind fun t185 => (if t185 = true then (slices_partialInsertionSortOrdered_uint32.j2 k2 x0_1 a1 a2 x7_2 x8_1) else (slices_partialInsertionSortOrdered_uint32.l1 k2 x0_1 a1 a2 (wrap64 (x7_2 + 1)) x8_1))) else (none)) else (none)) = some (r1, r2) := by first | (rw [hji9] at H; exact H) | (simp only [hji9] at H ⊢; exact H)
                    have hji9w : (IntKind.i64.wrap (x7_2 - 1)) = ji9 := (i64_w _).trans hji9
                    by_cases c10 : 0 ≤ (ji9)
                    · rw [if_pos c10] at H
                      have c10b0 : decide (0 ≤ (ji9)) = true := decide_eq_true c10
                      clear c10
                      by_cases c11 : (ji9) < (x0_1.length : Int)
                      · rw [if_pos c11] at H
                        have c11b0 : decide ((ji9) < (x0_1.length : Int)) = true := decide_eq_true c11
                        clear c11
                        replace H := Option.bind_eq_some_iff.mp H
                        obtain ⟨t185, A120, H⟩ := H
                        replace H : (if t185 = true then (slices_partialInsertionSortOrdered_uint32.j2 k2 x0_1 a1 a2 x7_2 x8_1) else (slices_partialInsertionSortOrdered_uint32.l1 k2 x0_1 a1 a2 (wrap64 (x7_2 + 1)) x8_1)) = some (r1, r2) := H
                        have A12 := Aside0.mk A120
                        clear A120
                        by_cases c13 : t185 = true
                        · subst c13
                          have H1 : (slices_partialInsertionSortOrdered_uint32.j2 k2 x0_1 a1 a2 x7_2 x8_1) = some (r1, r2) := by rw [if_pos rfl] at H; exact H
                          clear H
                          have H := H1
                          clear H1
                          have H' := Aside0.mk H
                          clear H
                          try go_wp2
                          have n0_ := Aside0.mk (Kd.R_drew HO_0.out)
                          have n1_ := Aside0.mk (Kept.drew HK.out)
                          have n2_ := Aside0.mk (below_drew1 HB.out)
                          clear HO_0
                          clear HK
                          clear HB
                          have HO_0 := n0_
                          have HK := n1_
                          have HB := n2_
                          clear n0_ n1_ n2_
                          obtain ⟨Ao15, co15, eo15⟩ := Kd.R_slice HO_0.out
                          (first | subst eo15 | (injection eo15 with f1_ f2_ f3_; have f4_ := f1_.symm; have f5_ := f3_.symm; clear f1_ f2_ f3_; subst f4_; subst f5_))
                          have p183 : 0 ≤ (x7_2 : Int) := of_decide_eq_true (by first | (with_reducible assumption) | assumption)
                          have q183 : x7_2 < (x0_1.length : Int) := of_decide_eq_true (by first | (with_reducible assumption) | assumption)
                          obtain ⟨ad183, e183, hx183_0⟩ := Kd.at_int (Kd.R_reads' HO_0.out).2.2 x7_2 p183 q183
                          cases e183
                          replace p183 := eq_true p183
                          replace q183 := eq_true q183
                          have p184 : 0 ≤ ((ji9) : Int) := of_decide_eq_true (by first | (with_reducible assumption) | assumption)
                          have q184 : (ji9) < (x0_1.length : Int) := of_decide_eq_true (by first | (with_reducible assumption) | assumption)
                          obtain ⟨ad184, e184, hx184_0⟩ := Kd.at_int (Kd.R_reads' HO_0.out).2.2 (ji9) p184 q184
                          obtain rfl : ad183 = ad184 := (by injection e184)
                          replace p184 := eq_true p184
                          replace q184 := eq_true q184
                          refine start_ (n := 16) (S := fun w' => w'.cell? (ad183.add (x7_2).toNat) = some (.int .u32 (rd x0_1 x7_2)) ∧ w'.cell? (ad183.add ((ji9)).toNat) = some (.int .u32 (rd x0_1 (ji9)))) (ds := []) #[false, false, false, false, false, false, false, false, false, false, false, false, false, false, false, false] (by kernel_rfl) rfl rfl ⟨hx183_0, hx184_0⟩ (fun hHeld => ?_); refine with_tabW slices_partialInsertionSortOrdered_uint32.tab5 slices_partialInsertionSortOrdered_uint32.bits5 (fun HT_ HW_ => ?_)
                          generalize wr.drew = w14 at HO_0 HK HB hx183_0 hx184_0 hHeld ⊢
                          refine pure_ (i := 0) (N := some 17) (v := ?_) (a' := ?_) #[true, false, false, false, false, false, false, false, false, false, false, false, false, false, false, false] rfl rfl (any_of HT_.out (by kernel_rfl)) (fun _ _ _ h => h) (Or.inl ⟨by rfl, ?_⟩) ?_ ?_
                          rotate_left
                          · intro w'
                            go_simp
                            with_reducible rfl
                          rotate_left
                          · simp only [Act.put, List.setIfInBounds_toArray, List.set_cons_zero, List.set_cons_succ, i64_w, i32_w]
                            rfl
                          refine pure_ (i := 1) (N := some 18) (v := ?_) (a' := ?_) #[true, true, false, false, false, false, false, false, false, false, false, false, false, false, false, false] rfl rfl (any_of HT_.out (by kernel_rfl)) (fun _ _ _ h => h) (Or.inl ⟨by rfl, ?_⟩) ?_ ?_
                          rotate_left
                          · intro w'
                            go_simp
                            with_reducible rfl
                          rotate_left
                          · simp only [Act.put, List.setIfInBounds_toArray, List.set_cons_zero, List.set_cons_succ, i64_w, i32_w]
                            rfl
                          refine pure_ (i := 2) (N := some 19) (v := ?_) (a' := ?_) #[true, true, true, false, false, false, false, false, false, false, false, false, false, false, false, false] rfl rfl (any_of HT_.out (by kernel_rfl)) (fun _ _ _ h => h) (Or.inl ⟨by rfl, ?_⟩) ?_ ?_
                          rotate_left
                          · intro w'
                            go_simp
                            with_reducible rfl
                          rotate_left
                          · simp only [Act.put, List.setIfInBounds_toArray, List.set_cons_zero, List.set_cons_succ, i64_w, i32_w]
                            rfl
                          refine pure_ (i := 3) (N := some 20) (v := ?_) (a' := ?_) #[true, true, true, true, false, false, false, false, false, false, false, false, false, false, false, false] rfl rfl (any_of HT_.out (by kernel_rfl)) (fun _ _ _ h => h) (Or.inl ⟨by rfl, ?_⟩) ?_ ?_
                          rotate_left
                          · intro w'
                            go_simp
                            with_reducible rfl
                          rotate_left
                          · simp only [Act.put, List.setIfInBounds_toArray, List.set_cons_zero, List.set_cons_succ, i64_w, i32_w]
                            rfl
                          refine pure_ (i := 4) (N := some 21) (v := ?_) (a' := ?_) #[true, true, true, true, true, false, false, false, false, false, false, false, false, false, false, false] rfl rfl (any_of HT_.out (by kernel_rfl)) (fun _ _ _ h => h) (Or.inl ⟨by rfl, ?_⟩) ?_ ?_
                          rotate_left
                          · intro w'
                            go_simp
                            with_reducible rfl
                          rotate_left
                          · simp only [Act.put, List.setIfInBounds_toArray, List.set_cons_zero, List.set_cons_succ, i64_w, i32_w]
                            rfl
                          refine pure_ (i := 5) (N := some 22) (v := ?_) (a' := ?_) #[true, true, true, true, true, true, false, false, false, false, false, false, false, false, false, false] rfl rfl (any_of HT_.out (by kernel_rfl)) (fun _ _ _ h => h) (Or.inl ⟨by rfl, ?_⟩) ?_ ?_
                          rotate_left
                          · intro w'
                            go_simp
                            with_reducible rfl
                          rotate_left
                          · simp only [Act.put, List.setIfInBounds_toArray, List.set_cons_zero, List.set_cons_succ, i64_w, i32_w]
                            rfl
                          refine pure_ (i := 6) (N := some 23) (v := ?_) (a' := ?_) #[true, true, true, true, true, true, true, false, false, false, false, false, false, false, false, false] rfl rfl (any_of HT_.out (by kernel_rfl)) (fun _ _ _ h => h) (Or.inl ⟨by rfl, ?_⟩) ?_ ?_
                          rotate_left
                          · intro w'
                            go_simp
                            with_reducible rfl
                          rotate_left
                          · simp only [Act.put, List.setIfInBounds_toArray, List.set_cons_zero, List.set_cons_succ, i64_w, i32_w]
                            rfl
                          refine pure_ (i := 8) (N := some 25) (v := ?_) (a' := ?_) #[true, true, true, true, true, true, true, false, true, false, false, false, false, false, false, false] rfl rfl (any_of HT_.out (by kernel_rfl)) (fun _ _ _ h => h) (Or.inl ⟨by rfl, ?_⟩) ?_ ?_
                          rotate_left
                          · intro w'
                            go_simp
                            with_reducible rfl
                          rotate_left
                          · simp only [Act.put, List.setIfInBounds_toArray, List.set_cons_zero, List.set_cons_succ, i64_w, i32_w]
                            rfl
                          refine pure_ (i := 9) (N := some 26) (v := ?_) (a' := ?_) #[true, true, true, true, true, true, true, false, true, true, false, false, false, false, false, false] rfl rfl (any_of HT_.out (by kernel_rfl)) (fun _ _ _ h => h) (Or.inl ⟨by rfl, ?_⟩) ?_ ?_
                          rotate_left
                          · intro w'
                            go_simp
                            with_reducible rfl
                          rotate_left
                          · simp only [Act.put, List.setIfInBounds_toArray, List.set_cons_zero, List.set_cons_succ, i64_w, i32_w]
                            rfl
                          refine pure_ (i := 10) (N := some 27) (v := ?_) (a' := ?_) #[true, true, true, true, true, true, true, false, true, true, true, false, false, false, false, false] rfl rfl (any_of HT_.out (by kernel_rfl)) (fun _ _ _ h => h) (Or.inl ⟨by rfl, ?_⟩) ?_ ?_
                          rotate_left
                          · intro w'
                            go_simp
                            with_reducible rfl
                          rotate_left
                          · simp only [Act.put, List.setIfInBounds_toArray, List.set_cons_zero, List.set_cons_succ, i64_w, i32_w]
                            rfl
                          refine pure_ (i := 11) (N := some 28) (v := ?_) (a' := ?_) #[true, true, true, true, true, true, true, false, true, true, true, true, false, false, false, false] rfl rfl (any_of HT_.out (by kernel_rfl)) (fun _ _ _ h => h) (Or.inl ⟨by rfl, ?_⟩) ?_ ?_
                          rotate_left
                          · intro w'
                            go_simp
                            with_reducible rfl
                          rotate_left
                          · simp only [Act.put, List.setIfInBounds_toArray, List.set_cons_zero, List.set_cons_succ, i64_w, i32_w]
                            rfl
                          refine take_ (i := 7) (N := some 24) (v := ?_) (a' := ?_) #[true, true, true, true, true, true, true, true, true, true, true, true, false, false, false, false] rfl rfl (take_ofW HT_.out HW_.out (by kernel_rfl)) (fun _ _ _ h => h) (Or.inl ⟨by rfl, ?_⟩) hHeld ?_ ?_
                          rotate_left
                          · rintro w' ⟨s0, s1⟩
                            go_simp
                            with_reducible rfl
                          rotate_left
                          · simp only [Act.put, List.setIfInBounds_toArray, List.set_cons_zero, List.set_cons_succ, i64_w, i32_w]
                            rfl
                          refine take_ (i := 12) (N := some 29) (v := ?_) (a' := ?_) #[true, true, true, true, true, true, true, true, true, true, true, true, true, false, false, false] rfl rfl (take_ofW HT_.out HW_.out (by kernel_rfl)) (fun _ _ _ h => h) (Or.inl ⟨by rfl, ?_⟩) hHeld ?_ ?_
                          rotate_left
                          · rintro w' ⟨s0, s1⟩
                            go_simp
                            with_reducible rfl
                          rotate_left
                          · simp only [Act.put, List.setIfInBounds_toArray, List.set_cons_zero, List.set_cons_succ, i64_w, i32_w]
                            rfl
                          refine one_ (i := 13) (N := some 30) #[true, true, true, true, true, true, true, true, true, true, true, true, true, true, false, false] rfl rfl (one_of HT_.out (by kernel_rfl)) (by decide) (fun K hK => ?_)
                          refine goes_ Tryd.func57 (by kernel_rfl) rfl #[.int .u32 (rd x0_1 x7_2), .int .u32 (rd x0_1 (ji9))] (by rfl) rfl rfl (by (try simp only [List.map_toArray, List.map_cons, List.map_nil]); first | done | (simp only [hji9]; rfl) | rfl | (simp only [List.length_drop, List.length_take]; rfl)) ?_
                          with_reducible refine (cmp_Less_uint32.calls (rd x0_1 x7_2) (rd x0_1 (ji9)) true _ A12.out).mono ?_
                          rintro e w' ⟨rfl, ⟨nd, rfl⟩⟩
                          refine ⟨_, rfl, ?_⟩
                          refine hK.out _ _ ⟨hHeld.1, hHeld.2⟩ (fun hHeld => ?_)
                          clear hK K
                          refine norm_ (a' := ?_) ?_ ?_
                          rotate_left
                          · show Act.put _ (some 30) _ = _
                            simp only [Act.put, List.setIfInBounds_toArray, List.set_cons_zero, List.set_cons_succ, i64_w, i32_w]
                            rfl
                          refine pure_ (i := 14) (N := some 31) (v := ?_) (a' := ?_) #[true, true, true, true, true, true, true, true, true, true, true, true, true, true, true, false] rfl rfl (any_of HT_.out (by kernel_rfl)) (fun _ _ _ h => h) (Or.inl ⟨by rfl, ?_⟩) ?_ ?_
                          rotate_left
                          · intro w'
                            go_simp
                            with_reducible rfl
                          rotate_left
                          · simp only [Act.put, List.setIfInBounds_toArray, List.set_cons_zero, List.set_cons_succ, i64_w, i32_w]
                            rfl
                          refine pure_ (i := 15) (N := some 32) (v := ?_) (a' := ?_) #[true, true, true, true, true, true, true, true, true, true, true, true, true, true, true, true] rfl rfl (any_of HT_.out (by kernel_rfl)) (fun _ _ _ h => h) (Or.inl ⟨by rfl, ?_⟩) ?_ ?_
                          rotate_left
                          · intro w'
                            go_simp
                            with_reducible rfl
                          rotate_left
                          · simp only [Act.put, List.setIfInBounds_toArray, List.set_cons_zero, List.set_cons_succ, i64_w, i32_w]
                            rfl
                          refine done_ (done_of HT_.out (by kernel_rfl)) ?_
                          try go_wp2
                          go_meet
                          case rel => exact ⟨_, (x7_2), (by first | rfl | (simp; done) | (simp [*]; done)), H', ⟨by have := HK1.out; have := HK2.out; first | omega | exact Nat.le_refl _⟩, ⟨by (with_reducible repeat (first | apply Kd.R_alloc | apply Kd.R_drewN | apply Kd.R_drew)); exact HO_0.out⟩, ⟨by repeat (first | (with_reducible first | exact HK.out | apply Kept.alloc | apply Kept.drewN | apply Kept.drew) | exact HK.out)⟩, ⟨by repeat (first | (with_reducible first | exact HB.out | apply below_alloc | apply pw_below_drewN | apply below_drew1) | exact HB.out)⟩⟩
                        · replace c13 := Bool.eq_false_iff.mpr c13
                          subst c13
                          have H1 : (slices_partialInsertionSortOrdered_uint32.l1 k2 x0_1 a1 a2 (wrap64 (x7_2 + 1)) x8_1) = some (r1, r2) := by rw [if_neg (show ¬ (false = true) by decide)] at H; exact H
                          clear H
                          have H := H1
                          clear H1
                          have H' := Aside0.mk H
                          clear H
                          try go_wp2
                          have n0_ := Aside0.mk (Kd.R_drew HO_0.out)
                          have n1_ := Aside0.mk (Kept.drew HK.out)
                          have n2_ := Aside0.mk (below_drew1 HB.out)
                          clear HO_0
                          clear HK
                          clear HB
                          have HO_0 := n0_
                          have HK := n1_
                          have HB := n2_
                          clear n0_ n1_ n2_
                          obtain ⟨Ao17, co17, eo17⟩ := Kd.R_slice HO_0.out
                          (first | subst eo17 | (injection eo17 with f1_ f2_ f3_; have f4_ := f1_.symm; have f5_ := f3_.symm; clear f1_ f2_ f3_; subst f4_; subst f5_))
                          have p183 : 0 ≤ (x7_2 : Int) := of_decide_eq_true (by first | (with_reducible assumption) | assumption)
                          have q183 : x7_2 < (x0_1.length : Int) := of_decide_eq_true (by first | (with_reducible assumption) | assumption)
                          obtain ⟨ad183, e183, hx183_0⟩ := Kd.at_int (Kd.R_reads' HO_0.out).2.2 x7_2 p183 q183
                          cases e183
                          replace p183 := eq_true p183
                          replace q183 := eq_true q183
                          have p184 : 0 ≤ ((ji9) : Int) := of_decide_eq_true (by first | (with_reducible assumption) | assumption)
                          have q184 : (ji9) < (x0_1.length : Int) := of_decide_eq_true (by first | (with_reducible assumption) | assumption)
                          obtain ⟨ad184, e184, hx184_0⟩ := Kd.at_int (Kd.R_reads' HO_0.out).2.2 (ji9) p184 q184
                          obtain rfl : ad183 = ad184 := (by injection e184)
                          replace p184 := eq_true p184
                          replace q184 := eq_true q184
                          refine start_ (n := 16) (S := fun w' => w'.cell? (ad183.add (x7_2).toNat) = some (.int .u32 (rd x0_1 x7_2)) ∧ w'.cell? (ad183.add ((ji9)).toNat) = some (.int .u32 (rd x0_1 (ji9)))) (ds := []) #[false, false, false, false, false, false, false, false, false, false, false, false, false, false, false, false] (by kernel_rfl) rfl rfl ⟨hx183_0, hx184_0⟩ (fun hHeld => ?_); refine with_tabW slices_partialInsertionSortOrdered_uint32.tab5 slices_partialInsertionSortOrdered_uint32.bits5 (fun HT_ HW_ => ?_)
                          generalize wr.drew = w16 at HO_0 HK HB hx183_0 hx184_0 hHeld ⊢
                          refine pure_ (i := 0) (N := some 17) (v := ?_) (a' := ?_) #[true, false, false, false, false, false, false, false, false, false, false, false, false, false, false, false] rfl rfl (any_of HT_.out (by kernel_rfl)) (fun _ _ _ h => h) (Or.inl ⟨by rfl, ?_⟩) ?_ ?_
                          rotate_left
                          · intro w'
                            go_simp
                            with_reducible rfl
                          rotate_left
                          · simp only [Act.put, List.setIfInBounds_toArray, List.set_cons_zero, List.set_cons_succ, i64_w, i32_w]
                            rfl
                          refine pure_ (i := 1) (N := some 18) (v := ?_) (a' := ?_) #[true, true, false, false, false, false, false, false, false, false, false, false, false, false, false, false] rfl rfl (any_of HT_.out (by kernel_rfl)) (fun _ _ _ h => h) (Or.inl ⟨by rfl, ?_⟩) ?_ ?_
                          rotate_left
                          · intro w'
                            go_simp
                            with_reducible rfl
                          rotate_left
                          · simp only [Act.put, List.setIfInBounds_toArray, List.set_cons_zero, List.set_cons_succ, i64_w, i32_w]
                            rfl
                          refine pure_ (i := 2) (N := some 19) (v := ?_) (a' := ?_) #[true, true, true, false, false, false, false, false, false, false, false, false, false, false, false, false] rfl rfl (any_of HT_.out (by kernel_rfl)) (fun _ _ _ h => h) (Or.inl ⟨by rfl, ?_⟩) ?_ ?_
                          rotate_left
                          · intro w'
                            go_simp
                            with_reducible rfl
                          rotate_left
                          · simp only [Act.put, List.setIfInBounds_toArray, List.set_cons_zero, List.set_cons_succ, i64_w, i32_w]
                            rfl
                          refine pure_ (i := 3) (N := some 20) (v := ?_) (a' := ?_) #[true, true, true, true, false, false, false, false, false, false, false, false, false, false, false, false] rfl rfl (any_of HT_.out (by kernel_rfl)) (fun _ _ _ h => h) (Or.inl ⟨by rfl, ?_⟩) ?_ ?_
                          rotate_left
                          · intro w'
                            go_simp
                            with_reducible rfl
                          rotate_left
                          · simp only [Act.put, List.setIfInBounds_toArray, List.set_cons_zero, List.set_cons_succ, i64_w, i32_w]
                            rfl
                          refine pure_ (i := 4) (N := some 21) (v := ?_) (a' := ?_) #[true, true, true, true, true, false, false, false, false, false, false, false, false, false, false, false] rfl rfl (any_of HT_.out (by kernel_rfl)) (fun _ _ _ h => h) (Or.inl ⟨by rfl, ?_⟩) ?_ ?_
                          rotate_left
                          · intro w'
                            go_simp
                            with_reducible rfl
                          rotate_left
                          · simp only [Act.put, List.setIfInBounds_toArray, List.set_cons_zero, List.set_cons_succ, i64_w, i32_w]
                            rfl
                          refine pure_ (i := 5) (N := some 22) (v := ?_) (a' := ?_) #[true, true, true, true, true, true, false, false, false, false, false, false, false, false, false, false] rfl rfl (any_of HT_.out (by kernel_rfl)) (fun _ _ _ h => h) (Or.inl ⟨by rfl, ?_⟩) ?_ ?_
                          rotate_left
                          · intro w'
                            go_simp
                            with_reducible rfl
                          rotate_left
                          · simp only [Act.put, List.setIfInBounds_toArray, List.set_cons_zero, List.set_cons_succ, i64_w, i32_w]
                            rfl
                          refine pure_ (i := 6) (N := some 23) (v := ?_) (a' := ?_) #[true, true, true, true, true, true, true, false, false, false, false, false, false, false, false, false] rfl rfl (any_of HT_.out (by kernel_rfl)) (fun _ _ _ h => h) (Or.inl ⟨by rfl, ?_⟩) ?_ ?_
                          rotate_left
                          · intro w'
                            go_simp
                            with_reducible rfl
                          rotate_left
                          · simp only [Act.put, List.setIfInBounds_toArray, List.set_cons_zero, List.set_cons_succ, i64_w, i32_w]
                            rfl
                          refine pure_ (i := 8) (N := some 25) (v := ?_) (a' := ?_) #[true, true, true, true, true, true, true, false, true, false, false, false, false, false, false, false] rfl rfl (any_of HT_.out (by kernel_rfl)) (fun _ _ _ h => h) (Or.inl ⟨by rfl, ?_⟩) ?_ ?_
                          rotate_left
                          · intro w'
                            go_simp
                            with_reducible rfl
                          rotate_left
                          · simp only [Act.put, List.setIfInBounds_toArray, List.set_cons_zero, List.set_cons_succ, i64_w, i32_w]
                            rfl
                          refine pure_ (i := 9) (N := some 26) (v := ?_) (a' := ?_) #[true, true, true, true, true, true, true, false, true, true, false, false, false, false, false, false] rfl rfl (any_of HT_.out (by kernel_rfl)) (fun _ _ _ h => h) (Or.inl ⟨by rfl, ?_⟩) ?_ ?_
                          rotate_left
                          · intro w'
                            go_simp
                            with_reducible rfl
                          rotate_left
                          · simp only [Act.put, List.setIfInBounds_toArray, List.set_cons_zero, List.set_cons_succ, i64_w, i32_w]
                            rfl
                          refine pure_ (i := 10) (N := some 27) (v := ?_) (a' := ?_) #[true, true, true, true, true, true, true, false, true, true, true, false, false, false, false, false] rfl rfl (any_of HT_.out (by kernel_rfl)) (fun _ _ _ h => h) (Or.inl ⟨by rfl, ?_⟩) ?_ ?_
                          rotate_left
                          · intro w'
                            go_simp
                            with_reducible rfl
                          rotate_left
                          · simp only [Act.put, List.setIfInBounds_toArray, List.set_cons_zero, List.set_cons_succ, i64_w, i32_w]
                            rfl
                          refine pure_ (i := 11) (N := some 28) (v := ?_) (a' := ?_) #[true, true, true, true, true, true, true, false, true, true, true, true, false, false, false, false] rfl rfl (any_of HT_.out (by kernel_rfl)) (fun _ _ _ h => h) (Or.inl ⟨by rfl, ?_⟩) ?_ ?_
                          rotate_left
                          · intro w'
                            go_simp
                            with_reducible rfl
                          rotate_left
                          · simp only [Act.put, List.setIfInBounds_toArray, List.set_cons_zero, List.set_cons_succ, i64_w, i32_w]
                            rfl
                          refine take_ (i := 7) (N := some 24) (v := ?_) (a' := ?_) #[true, true, true, true, true, true, true, true, true, true, true, true, false, false, false, false] rfl rfl (take_ofW HT_.out HW_.out (by kernel_rfl)) (fun _ _ _ h => h) (Or.inl ⟨by rfl, ?_⟩) hHeld ?_ ?_
                          rotate_left
                          · rintro w' ⟨s0, s1⟩
                            go_simp
                            with_reducible rfl
                          rotate_left
                          · simp only [Act.put, List.setIfInBounds_toArray, List.set_cons_zero, List.set_cons_succ, i64_w, i32_w]
                            rfl
                          refine take_ (i := 12) (N := some 29) (v := ?_) (a' := ?_) #[true, true, true, true, true, true, true, true, true, true, true, true, true, false, false, false] rfl rfl (take_ofW HT_.out HW_.out (by kernel_rfl)) (fun _ _ _ h => h) (Or.inl ⟨by rfl, ?_⟩) hHeld ?_ ?_
                          rotate_left
                          · rintro w' ⟨s0, s1⟩
                            go_simp
                            with_reducible rfl
                          rotate_left
                          · simp only [Act.put, List.setIfInBounds_toArray, List.set_cons_zero, List.set_cons_succ, i64_w, i32_w]
                            rfl
                          refine one_ (i := 13) (N := some 30) #[true, true, true, true, true, true, true, true, true, true, true, true, true, true, false, false] rfl rfl (one_of HT_.out (by kernel_rfl)) (by decide) (fun K hK => ?_)
                          refine goes_ Tryd.func57 (by kernel_rfl) rfl #[.int .u32 (rd x0_1 x7_2), .int .u32 (rd x0_1 (ji9))] (by rfl) rfl rfl (by (try simp only [List.map_toArray, List.map_cons, List.map_nil]); first | done | (simp only [hji9]; rfl) | rfl | (simp only [List.length_drop, List.length_take]; rfl)) ?_
                          with_reducible refine (cmp_Less_uint32.calls (rd x0_1 x7_2) (rd x0_1 (ji9)) false _ A12.out).mono ?_
                          rintro e w' ⟨rfl, ⟨nd, rfl⟩⟩
                          refine ⟨_, rfl, ?_⟩
                          refine hK.out _ _ ⟨hHeld.1, hHeld.2⟩ (fun hHeld => ?_)
                          clear hK K
                          refine norm_ (a' := ?_) ?_ ?_
                          rotate_left
                          · show Act.put _ (some 30) _ = _
                            simp only [Act.put, List.setIfInBounds_toArray, List.set_cons_zero, List.set_cons_succ, i64_w, i32_w]
                            rfl
                          refine pure_ (i := 14) (N := some 31) (v := ?_) (a' := ?_) #[true, true, true, true, true, true, true, true, true, true, true, true, true, true, true, false] rfl rfl (any_of HT_.out (by kernel_rfl)) (fun _ _ _ h => h) (Or.inl ⟨by rfl, ?_⟩) ?_ ?_
                          rotate_left
                          · intro w'
                            go_simp
                            with_reducible rfl
                          rotate_left
                          · simp only [Act.put, List.setIfInBounds_toArray, List.set_cons_zero, List.set_cons_succ, i64_w, i32_w]
                            rfl
                          refine pure_ (i := 15) (N := some 32) (v := ?_) (a' := ?_) #[true, true, true, true, true, true, true, true, true, true, true, true, true, true, true, true] rfl rfl (any_of HT_.out (by kernel_rfl)) (fun _ _ _ h => h) (Or.inl ⟨by rfl, ?_⟩) ?_ ?_
                          rotate_left
                          · intro w'
                            go_simp
                            with_reducible rfl
                          rotate_left
                          · simp only [Act.put, List.setIfInBounds_toArray, List.set_cons_zero, List.set_cons_succ, i64_w, i32_w]
                            rfl
                          refine done_ (done_of HT_.out (by kernel_rfl)) ?_
                          try go_wp2
                          go_roundg k2
                          case measure => have := HK1.out; have := HK2.out; omega
                          case rel => exact ⟨(wrap64 (x7_2 + 1)), (by first | rfl | (simp; done) | (simp [*]; done)), H', ⟨by have := HK1.out; have := HK2.out; omega⟩, ⟨by (with_reducible repeat (first | apply Kd.R_alloc | apply Kd.R_drewN | apply Kd.R_drew)); exact HO_0.out⟩, ⟨by repeat (first | (with_reducible first | exact HK.out | apply Kept.alloc | apply Kept.drewN | apply Kept.drew) | exact HK.out)⟩, ⟨by repeat (first | (with_reducible first | exact HB.out | apply below_alloc | apply pw_below_drewN | apply below_drew1) | exact HB.out)⟩⟩
                      · rw [if_neg c11] at H
                        exact absurd H (by simp)
                    · rw [if_neg c10] at H
                      exact absurd H (by simp)
                  · rw [if_neg c8] at H
                    exact absurd H (by simp)
                · rw [if_neg c7] at H
                  exact absurd H (by simp)
              · rw [if_neg c6] at H
                have c6b0 : decide (x7_2 < a2) = false := decide_eq_false c6
                clear c6
                (first | rw [c6b0] | (simp only [i64_w, i32_w]; rw [c6b0]) | skip)
                have H' := Aside0.mk H
                clear H
                try go_wp2
                have n0_ := Aside0.mk (Kd.R_drew HO_0.out)
                have n1_ := Aside0.mk (Kept.drew HK.out)
                have n2_ := Aside0.mk (below_drew1 HB.out)
                clear HO_0
                clear HK
                clear HB
                have HO_0 := n0_
                have HK := n1_
                have HB := n2_
                clear n0_ n1_ n2_
                refine start_ (n := 16) (S := fun w' => True) (ds := []) #[false, false, false, false, false, false, false, false, false, false, false, false, false, false, false, false] (by kernel_rfl) rfl rfl trivial (fun hHeld => ?_); refine with_tabW slices_partialInsertionSortOrdered_uint32.tab5 slices_partialInsertionSortOrdered_uint32.bits5 (fun HT_ HW_ => ?_)
                generalize wr.drew = w18 at HO_0 HK HB hHeld ⊢
                refine pure_ (i := 0) (N := some 17) (v := ?_) (a' := ?_) #[true, false, false, false, false, false, false, false, false, false, false, false, false, false, false, false] rfl rfl (any_of HT_.out (by kernel_rfl)) (fun _ _ _ h => h) (Or.inl ⟨by rfl, ?_⟩) ?_ ?_
                rotate_left
                · intro w'
                  go_simp
                  with_reducible rfl
                rotate_left
                · simp only [Act.put, List.setIfInBounds_toArray, List.set_cons_zero, List.set_cons_succ, i64_w, i32_w]
                  rfl
                refine pure_ (i := 1) (N := some 18) (v := ?_) (a' := ?_) #[true, true, false, false, false, false, false, false, false, false, false, false, false, false, false, false] rfl rfl (any_of HT_.out (by kernel_rfl)) (fun _ _ _ h => h) (Or.inl ⟨by rfl, ?_⟩) ?_ ?_
                rotate_left
                · intro w'
                  go_simp
                  with_reducible rfl
                rotate_left
                · simp only [Act.put, List.setIfInBounds_toArray, List.set_cons_zero, List.set_cons_succ, i64_w, i32_w]
                  rfl
                refine pure_ (i := 2) (N := some 19) (v := ?_) (a' := ?_) #[true, true, true, false, false, false, false, false, false, false, false, false, false, false, false, false] rfl rfl (any_of HT_.out (by kernel_rfl)) (fun _ _ _ h => h) (Or.inl ⟨by rfl, ?_⟩) ?_ ?_
                rotate_left
                · intro w'
                  go_simp
                  with_reducible rfl
                rotate_left
                · simp only [Act.put, List.setIfInBounds_toArray, List.set_cons_zero, List.set_cons_succ, i64_w, i32_w]
                  rfl
                refine pure_ (i := 3) (N := some 20) (v := ?_) (a' := ?_) #[true, true, true, true, false, false, false, false, false, false, false, false, false, false, false, false] rfl rfl (any_of HT_.out (by kernel_rfl)) (fun _ _ _ h => h) (Or.inl ⟨by rfl, ?_⟩) ?_ ?_
                rotate_left
                · intro w'
                  go_simp
                  with_reducible rfl
                rotate_left
                · simp only [Act.put, List.setIfInBounds_toArray, List.set_cons_zero, List.set_cons_succ, i64_w, i32_w]
                  rfl
                refine pure_ (i := 4) (N := some 21) (v := undef) (a' := ?_) #[true, true, true, true, true, false, false, false, false, false, false, false, false, false, false, false] rfl rfl (any_of HT_.out (by kernel_rfl)) (fun _ _ _ h => h) (Or.inr ⟨by rfl, rfl⟩) ?_ ?_
                rotate_left
                · simp only [Act.put, List.setIfInBounds_toArray, List.set_cons_zero, List.set_cons_succ, i64_w, i32_w]
                  rfl
                refine pure_ (i := 5) (N := some 22) (v := undef) (a' := ?_) #[true, true, true, true, true, true, false, false, false, false, false, false, false, false, false, false] rfl rfl (any_of HT_.out (by kernel_rfl)) (fun _ _ _ h => h) (Or.inr ⟨by rfl, rfl⟩) ?_ ?_
                rotate_left
                · simp only [Act.put, List.setIfInBounds_toArray, List.set_cons_zero, List.set_cons_succ, i64_w, i32_w]
                  rfl
                refine pure_ (i := 6) (N := some 23) (v := undef) (a' := ?_) #[true, true, true, true, true, true, true, false, false, false, false, false, false, false, false, false] rfl rfl (any_of HT_.out (by kernel_rfl)) (fun _ _ _ h => h) (Or.inr ⟨by rfl, rfl⟩) ?_ ?_
                rotate_left
                · simp only [Act.put, List.setIfInBounds_toArray, List.set_cons_zero, List.set_cons_succ, i64_w, i32_w]
                  rfl
                refine pure_ (i := 7) (N := some 24) (v := undef) (a' := ?_) #[true, true, true, true, true, true, true, true, false, false, false, false, false, false, false, false] rfl rfl (any_of HT_.out (by kernel_rfl)) (fun _ _ _ h => h) (Or.inr ⟨by rfl, rfl⟩) ?_ ?_
                rotate_left
                · simp only [Act.put, List.setIfInBounds_toArray, List.set_cons_zero, List.set_cons_succ, i64_w, i32_w]
                  rfl
                refine pure_ (i := 8) (N := some 25) (v := undef) (a' := ?_) #[true, true, true, true, true, true, true, true, true, false, false, false, false, false, false, false] rfl rfl (any_of HT_.out (by kernel_rfl)) (fun _ _ _ h => h) (Or.inr ⟨by rfl, rfl⟩) ?_ ?_
                rotate_left
                · simp only [Act.put, List.setIfInBounds_toArray, List.set_cons_zero, List.set_cons_succ, i64_w, i32_w]
                  rfl
                refine pure_ (i := 9) (N := some 26) (v := undef) (a' := ?_) #[true, true, true, true, true, true, true, true, true, true, false, false, false, false, false, false] rfl rfl (any_of HT_.out (by kernel_rfl)) (fun _ _ _ h => h) (Or.inr ⟨by rfl, rfl⟩) ?_ ?_
                rotate_left
                · simp only [Act.put, List.setIfInBounds_toArray, List.set_cons_zero, List.set_cons_succ, i64_w, i32_w]
                  rfl
                refine pure_ (i := 10) (N := some 27) (v := undef) (a' := ?_) #[true, true, true, true, true, true, true, true, true, true, true, false, false, false, false, false] rfl rfl (any_of HT_.out (by kernel_rfl)) (fun _ _ _ h => h) (Or.inr ⟨by rfl, rfl⟩) ?_ ?_
                rotate_left
                · simp only [Act.put, List.setIfInBounds_toArray, List.set_cons_zero, List.set_cons_succ, i64_w, i32_w]
                  rfl
                refine pure_ (i := 11) (N := some 28) (v := undef) (a' := ?_) #[true, true, true, true, true, true, true, true, true, true, true, true, false, false, false, false] rfl rfl (any_of HT_.out (by kernel_rfl)) (fun _ _ _ h => h) (Or.inr ⟨by rfl, rfl⟩) ?_ ?_
                rotate_left
                · simp only [Act.put, List.setIfInBounds_toArray, List.set_cons_zero, List.set_cons_succ, i64_w, i32_w]
                  rfl
                refine pure_ (i := 12) (N := some 29) (v := undef) (a' := ?_) #[true, true, true, true, true, true, true, true, true, true, true, true, true, false, false, false] rfl rfl (any_of HT_.out (by kernel_rfl)) (fun _ _ _ h => h) (Or.inr ⟨by rfl, rfl⟩) ?_ ?_
                rotate_left
                · simp only [Act.put, List.setIfInBounds_toArray, List.set_cons_zero, List.set_cons_succ, i64_w, i32_w]
                  rfl
                refine pure_ (i := 13) (N := some 30) (v := undef) (a' := ?_) #[true, true, true, true, true, true, true, true, true, true, true, true, true, true, false, false] rfl rfl (any_of HT_.out (by kernel_rfl)) (fun _ _ _ h => h) (Or.inr ⟨by rfl, rfl⟩) ?_ ?_
                rotate_left
                · simp only [Act.put, List.setIfInBounds_toArray, List.set_cons_zero, List.set_cons_succ, i64_w, i32_w]
                  rfl
                refine pure_ (i := 14) (N := some 31) (v := undef) (a' := ?_) #[true, true, true, true, true, true, true, true, true, true, true, true, true, true, true, false] rfl rfl (any_of HT_.out (by kernel_rfl)) (fun _ _ _ h => h) (Or.inr ⟨by rfl, rfl⟩) ?_ ?_
                rotate_left
                · simp only [Act.put, List.setIfInBounds_toArray, List.set_cons_zero, List.set_cons_succ, i64_w, i32_w]
                  rfl
                refine pure_ (i := 15) (N := some 32) (v := ?_) (a' := ?_) #[true, true, true, true, true, true, true, true, true, true, true, true, true, true, true, true] rfl rfl (any_of HT_.out (by kernel_rfl)) (fun _ _ _ h => h) (Or.inl ⟨by rfl, ?_⟩) ?_ ?_
                rotate_left
                · intro w'
                  go_simp
                  with_reducible rfl
                rotate_left
                · simp only [Act.put, List.setIfInBounds_toArray, List.set_cons_zero, List.set_cons_succ, i64_w, i32_w]
                  rfl
                refine done_ (done_of HT_.out (by kernel_rfl)) ?_
                try go_wp2
                go_meet
                case rel => exact ⟨_, (x7_2), (by first | rfl | (simp; done) | (simp [*]; done)), H', ⟨by have := HK1.out; have := HK2.out; first | omega | exact Nat.le_refl _⟩, ⟨by (with_reducible repeat (first | apply Kd.R_alloc | apply Kd.R_drewN | apply Kd.R_drew)); exact HO_0.out⟩, ⟨by repeat (first | (with_reducible first | exact HK.out | apply Kept.alloc | apply Kept.drewN | apply Kept.drew) | exact HK.out)⟩, ⟨by repeat (first | (with_reducible first | exact HB.out | apply below_alloc | apply pw_below_drewN | apply below_drew1) | exact HB.out)⟩⟩
        case rest =>
          clear HC5
          try clear c1
          try clear p1
          try clear q1
          try clear hx1
          try clear p2
          try clear c4
          try clear c4b0
          try clear c5
          try clear c6
          try clear c6b0
          try clear p6
          try clear c7
          try clear c7b0
          try clear c8
          try clear c8b0
          try clear c10
          try clear c10b0
          try clear c11
          try clear c11b0
          try clear c13
          try clear p18
          try clear q18
          try clear hx18
          try clear hx183_0
          try clear hx184_0
          try clear p183
          try clear p184
          try clear p2
          try clear q183
          try clear q184
          obtain ⟨kq, x7_4, rfl, HA, HJ4, HO_0, HK, HB⟩ := hcut
          cases kq with
          | zero => exact absurd HA.out (by simp [slices_partialInsertionSortOrdered_uint32.j2])
          | succ kj4 =>
            have H := HA.out
            clear HA
            simp only [slices_partialInsertionSortOrdered_uint32.j2] at H
            by_cases c19 : x7_4 = a2
            · rw [if_pos c19] at H
              have c19b0 : (x7_4 == a2) = true := beq_iff_eq.mpr c19
              have c19b1 : (x7_4 != a2) = false := bne_eq_false_iff_eq.mpr c19
              clear c19
              simp only [Option.some.injEq, Prod.mk.injEq] at H
              obtain ⟨rfl, rfl⟩ := H
              go_wp2
              go_ret
              exact ⟨by first | rfl | (simp [errW_none, errW_some] <;> rfl) | (simp [*, errW_none, errW_some] <;> rfl), by (with_reducible repeat (first | apply Kd.R_alloc | apply Kd.R_drewN | apply Kd.R_drew)); exact HO_0.out, by repeat (first | (with_reducible first | exact HB.out | apply below_alloc | apply pw_below_drewN | apply below_drew1) | exact HB.out), by repeat (first | (with_reducible first | exact HK.out | apply Kept.alloc | apply Kept.drewN | apply Kept.drew) | exact HK.out)⟩
            · rw [if_neg c19] at H
              have c19b0 : (x7_4 == a2) = false := beq_eq_false_iff_ne.mpr c19
              have c19b1 : (x7_4 != a2) = true := bne_iff_ne.mpr c19
              by_cases c20 : (wrap64 (a2 - a1)) < 50
              · rw [if_pos c20] at H
                have c20b0 : decide ((wrap64 (a2 - a1)) < 50) = true := decide_eq_true c20
                clear c20
                simp only [Option.some.injEq, Prod.mk.injEq] at H
                obtain ⟨rfl, rfl⟩ := H
                go_wp2
                go_ret
                exact ⟨by first | rfl | (simp [errW_none, errW_some] <;> rfl) | (simp [*, errW_none, errW_some] <;> rfl), by (with_reducible repeat (first | apply Kd.R_alloc | apply Kd.R_drewN | apply Kd.R_drew)); exact HO_0.out, by repeat (first | (with_reducible first | exact HB.out | apply below_alloc | apply pw_below_drewN | apply below_drew1) | exact HB.out), by repeat (first | (with_reducible first | exact HK.out | apply Kept.alloc | apply Kept.drewN | apply Kept.drew) | exact HK.out)⟩
              · rw [if_neg c20] at H
                have c20b0 : decide ((wrap64 (a2 - a1)) < 50) = false := decide_eq_false c20
                clear c20
                obtain ⟨ji21, hji21⟩ : ∃ j_ : Int, (wrap64 (x7_4 - 1)) = j_ := ⟨_, rfl⟩
                replace H : (if 0 ≤ (ji21) then (if (ji21) < (x0_1.length : Int) then (if 0 ≤ x7_4 then (if x7_4 < (x0_1.length : Int) then ((some ((x0_1.set (x7_4 : Int).toNat (rd x0_1 (ji21))).set ((ji21) : Int).toNat (rd x0_1 x7_4) : List Int)).bind fun y189 => (if (wrap64 (x7_4 - a1)) ≥ 2 then (slices_partialInsertionSortOrdered_uint32.l2 kj4 y189 a1 a2 x7_4 x8_1 ji21) else (slices_partialInsertionSortOrdered_uint32.j4 kj4 y189 a1 a2 x7_4 x8_1))) else (none)) else (none)) else (none)) else (none)) = some (r1, r2) := by first | (rw [hji21] at H; exact H) | (simp only [hji21] at H ⊢; exact H)
                have hji21w : (IntKind.i64.wrap (x7_4 - 1)) = ji21 := (i64_w _).trans hji21
                by_cases c22 : 0 ≤ (ji21)
                · rw [if_pos c22] at H
                  have c22b0 : decide (0 ≤ (ji21)) = true := decide_eq_true c22
                  clear c22
                  by_cases c23 : (ji21) < (x0_1.length : Int)
                  · rw [if_pos c23] at H
                    have c23b0 : decide ((ji21) < (x0_1.length : Int)) = true := decide_eq_true c23
                    clear c23
                    by_cases c24 : 0 ≤ x7_4
                    · rw [if_pos c24] at H
                      have c24b0 : decide (0 ≤ x7_4) = true := decide_eq_true c24
                      clear c24
                      by_cases c25 : x7_4 < (x0_1.length : Int)
                      · rw [if_pos c25] at H
                        have c25b0 : decide (x7_4 < (x0_1.length : Int)) = true := decide_eq_true c25
                        clear c25
                        obtain ⟨y188, hy188⟩ : ∃ y_ : List Int, y_ = (x0_1.set (x7_4 : Int).toNat (rd x0_1 (ji21))) := ⟨_, rfl⟩
                        replace H : ((some (y188.set ((ji21) : Int).toNat (rd x0_1 x7_4) : List Int)).bind fun y189 => (if (wrap64 (x7_4 - a1)) ≥ 2 then (slices_partialInsertionSortOrdered_uint32.l2 kj4 y189 a1 a2 x7_4 x8_1 ji21) else (slices_partialInsertionSortOrdered_uint32.j4 kj4 y189 a1 a2 x7_4 x8_1))) = some (r1, r2) := by first | (rw [hy188]; with_reducible exact H) | (have H2_ := (Option.bind_some _ _).symm.trans H; rw [hy188]; with_reducible exact H2_) | (have H2_ := (Option.bind_some _ _).symm.trans H; with_reducible exact H2_) | with_reducible exact H | (rw [hy188]; exact H) | exact H
                        have Ny188 := Aside0.mk hy188
                        clear hy188
                        obtain ⟨y189, hy189⟩ : ∃ y_ : List Int, y_ = (y188.set ((ji21) : Int).toNat (rd x0_1 x7_4)) := ⟨_, rfl⟩
                        replace H : (if (wrap64 (x7_4 - a1)) ≥ 2 then (slices_partialInsertionSortOrdered_uint32.l2 kj4 y189 a1 a2 x7_4 x8_1 ji21) else (slices_partialInsertionSortOrdered_uint32.j4 kj4 y189 a1 a2 x7_4 x8_1)) = some (r1, r2) := by first | (rw [hy189]; with_reducible exact H) | (have H2_ := (Option.bind_some _ _).symm.trans H; rw [hy189]; with_reducible exact H2_) | (have H2_ := (Option.bind_some _ _).symm.trans H; with_reducible exact H2_) | with_reducible exact H | (rw [hy189]; exact H) | exact H
                        have Ny189 := Aside0.mk hy189
                        clear hy189
                        have HC28 := Aside0.mk H
                        clear H
                        try go_wp2
                        have n0_ := Aside0.mk (Kd.R_drew HO_0.out)
                        have n1_ := Aside0.mk (Kept.drew HK.out)
                        have n2_ := Aside0.mk (below_drew1 HB.out)
                        clear HO_0
                        clear HK
                        clear HB
                        have HO_0 := n0_
                        have HK := n1_
                        have HB := n2_
                        clear n0_ n1_ n2_
                        obtain ⟨Ao30, co30, eo30⟩ := Kd.R_slice HO_0.out
                        (first | subst eo30 | (injection eo30 with f1_ f2_ f3_; have f4_ := f1_.symm; have f5_ := f3_.symm; clear f1_ f2_ f3_; subst f4_; subst f5_))
                        have p186 : 0 ≤ ((ji21) : Int) := of_decide_eq_true (by first | (with_reducible assumption) | assumption)
                        have q186 : (ji21) < (x0_1.length : Int) := of_decide_eq_true (by first | (with_reducible assumption) | assumption)
                        obtain ⟨ad186, e186, hx186_0⟩ := Kd.at_int (Kd.R_reads' HO_0.out).2.2 (ji21) p186 q186
                        cases e186
                        replace p186 := eq_true p186
                        replace q186 := eq_true q186
                        have p187 : 0 ≤ (x7_4 : Int) := of_decide_eq_true (by first | (with_reducible assumption) | assumption)
                        have q187 : x7_4 < (x0_1.length : Int) := of_decide_eq_true (by first | (with_reducible assumption) | assumption)
                        obtain ⟨ad187, e187, hx187_0⟩ := Kd.at_int (Kd.R_reads' HO_0.out).2.2 x7_4 p187 q187
                        obtain rfl : ad186 = ad187 := (by injection e187)
                        replace p187 := eq_true p187
                        replace q187 := eq_true q187
                        have p26 : 0 ≤ (x7_4 : Int) := of_decide_eq_true (by first | (with_reducible assumption) | assumption)
                        have q26 : (x7_4 : Int) < ((x0_1.length : Int) : Int) := of_decide_eq_true (by first | (with_reducible assumption) | assumption)
                        obtain ⟨go26, co26, eo26, gb26, gl26, cl26, HG26⟩ := Kd.R_form HO_0.out (by omega)
                        (first | cases eo26 | (injection eo26 with ea_ en_ ec_; (first | subst ea_ | (injection ea_ with ea_; subst ea_)); subst ec_; clear en_))
                        have GB26 := Aside0.mk gb26
                        have GG26 := Aside0.mk HG26
                        clear gb26 gl26 HG26
                        have HMgo26 := Aside0.mk (show (P0_ go26 ∨ w.heap.size ≤ go26) from (HO_0.out.1 _ rfl))
                        (first | simp only [add_plain] at hx186_0 | skip)
                        (first | simp only [add_plain] at hx187_0 | skip)
                        obtain ⟨hx26_0, hf26_0⟩ := Kd.R_celln 0 HO_0.out (x7_4 : Int) p26 q26
                        replace p26 := eq_true p26
                        replace q26 := eq_true q26
                        have HP31 := Kd.R_putn HO_0.out (x7_4 : Int) (rd x0_1 (ji21))
                        rw [← Ny188.out] at HP31
                        have HQ31 := Aside0.mk HP31
                        clear HP31
                        have p27 : 0 ≤ ((ji21) : Int) := of_decide_eq_true (by first | (with_reducible assumption) | assumption)
                        have q27 : ((ji21) : Int) < ((x0_1.length : Int) : Int) := of_decide_eq_true (by first | (with_reducible assumption) | assumption)
                        obtain ⟨hx27_0, hf27_0⟩ := Kd.R_celln 0 HQ31.out ((ji21) : Int) p27 q27
                        replace p27 := eq_true p27
                        replace q27 := eq_true q27
                        have HP32 := Kd.R_putn HQ31.out ((ji21) : Int) (rd x0_1 x7_4)
                        rw [← Ny189.out] at HP32
                        have HQ32 := Aside0.mk HP32
                        clear HP32
                        refine start_ (n := 18) (S := fun w' => w'.cell? ⟨go26, ((ji21)).toNat, none⟩ = some (.int .u32 (rd x0_1 (ji21))) ∧ w'.cell? ⟨go26, (x7_4).toNat, none⟩ = some (.int .u32 (rd x0_1 x7_4))) (ds := [15, 17]) #[false, false, false, false, false, false, false, false, false, false, false, false, false, false, false, false, false, false] (by kernel_rfl) rfl rfl ⟨hx186_0, hx187_0⟩ (fun hHeld => ?_); refine with_tabW slices_partialInsertionSortOrdered_uint32.tab11 slices_partialInsertionSortOrdered_uint32.bits11 (fun HT_ HW_ => ?_)
                        generalize wc.drew = w29 at HO_0 HK HB GG26 HQ31 HQ32 hf26_0 hf27_0 hx186_0 hx187_0 hx26_0 hx27_0 hHeld ⊢
                        refine pure_ (i := 0) (N := some 42) (v := ?_) (a' := ?_) #[true, false, false, false, false, false, false, false, false, false, false, false, false, false, false, false, false, false] rfl rfl (any_of HT_.out (by kernel_rfl)) (fun _ _ _ h => h) (Or.inl ⟨by rfl, ?_⟩) ?_ ?_
                        rotate_left
                        · intro w'
                          go_simp
                          with_reducible rfl
                        rotate_left
                        · simp only [Act.put, List.setIfInBounds_toArray, List.set_cons_zero, List.set_cons_succ, i64_w, i32_w]
                          rfl
                        refine pure_ (i := 1) (N := some 43) (v := ?_) (a' := ?_) #[true, true, false, false, false, false, false, false, false, false, false, false, false, false, false, false, false, false] rfl rfl (any_of HT_.out (by kernel_rfl)) (fun _ _ _ h => h) (Or.inl ⟨by rfl, ?_⟩) ?_ ?_
                        rotate_left
                        · intro w'
                          go_simp
                          with_reducible rfl
                        rotate_left
                        · simp only [Act.put, List.setIfInBounds_toArray, List.set_cons_zero, List.set_cons_succ, i64_w, i32_w]
                          rfl
                        refine pure_ (i := 2) (N := some 44) (v := ?_) (a' := ?_) #[true, true, true, false, false, false, false, false, false, false, false, false, false, false, false, false, false, false] rfl rfl (any_of HT_.out (by kernel_rfl)) (fun _ _ _ h => h) (Or.inl ⟨by rfl, ?_⟩) ?_ ?_
                        rotate_left
                        · intro w'
                          go_simp
                          with_reducible rfl
                        rotate_left
                        · simp only [Act.put, List.setIfInBounds_toArray, List.set_cons_zero, List.set_cons_succ, i64_w, i32_w]
                          rfl
                        refine pure_ (i := 3) (N := some 45) (v := ?_) (a' := ?_) #[true, true, true, true, false, false, false, false, false, false, false, false, false, false, false, false, false, false] rfl rfl (any_of HT_.out (by kernel_rfl)) (fun _ _ _ h => h) (Or.inl ⟨by rfl, ?_⟩) ?_ ?_
                        rotate_left
                        · intro w'
                          go_simp
                          with_reducible rfl
                        rotate_left
                        · simp only [Act.put, List.setIfInBounds_toArray, List.set_cons_zero, List.set_cons_succ, i64_w, i32_w]
                          rfl
                        refine pure_ (i := 4) (N := some 46) (v := ?_) (a' := ?_) #[true, true, true, true, true, false, false, false, false, false, false, false, false, false, false, false, false, false] rfl rfl (any_of HT_.out (by kernel_rfl)) (fun _ _ _ h => h) (Or.inl ⟨by rfl, ?_⟩) ?_ ?_
                        rotate_left
                        · intro w'
                          go_simp
                          with_reducible rfl
                        rotate_left
                        · simp only [Act.put, List.setIfInBounds_toArray, List.set_cons_zero, List.set_cons_succ, i64_w, i32_w]
                          rfl
                        refine pure_ (i := 5) (N := some 47) (v := ?_) (a' := ?_) #[true, true, true, true, true, true, false, false, false, false, false, false, false, false, false, false, false, false] rfl rfl (any_of HT_.out (by kernel_rfl)) (fun _ _ _ h => h) (Or.inl ⟨by rfl, ?_⟩) ?_ ?_
                        rotate_left
                        · intro w'
                          go_simp
                          with_reducible rfl
                        rotate_left
                        · simp only [Act.put, List.setIfInBounds_toArray, List.set_cons_zero, List.set_cons_succ, i64_w, i32_w]
                          rfl
                        refine pure_ (i := 6) (N := some 48) (v := ?_) (a' := ?_) #[true, true, true, true, true, true, true, false, false, false, false, false, false, false, false, false, false, false] rfl rfl (any_of HT_.out (by kernel_rfl)) (fun _ _ _ h => h) (Or.inl ⟨by rfl, ?_⟩) ?_ ?_
                        rotate_left
                        · intro w'
                          go_simp
                          with_reducible rfl
                        rotate_left
                        · simp only [Act.put, List.setIfInBounds_toArray, List.set_cons_zero, List.set_cons_succ, i64_w, i32_w]
                          rfl
                        refine pure_ (i := 7) (N := some 49) (v := ?_) (a' := ?_) #[true, true, true, true, true, true, true, true, false, false, false, false, false, false, false, false, false, false] rfl rfl (any_of HT_.out (by kernel_rfl)) (fun _ _ _ h => h) (Or.inl ⟨by rfl, ?_⟩) ?_ ?_
                        rotate_left
                        · intro w'
                          go_simp
                          with_reducible rfl
                        rotate_left
                        · simp only [Act.put, List.setIfInBounds_toArray, List.set_cons_zero, List.set_cons_succ, i64_w, i32_w]
                          rfl
                        refine pure_ (i := 8) (N := some 50) (v := ?_) (a' := ?_) #[true, true, true, true, true, true, true, true, true, false, false, false, false, false, false, false, false, false] rfl rfl (any_of HT_.out (by kernel_rfl)) (fun _ _ _ h => h) (Or.inl ⟨by rfl, ?_⟩) ?_ ?_
                        rotate_left
                        · intro w'
                          go_simp
                          with_reducible rfl
                        rotate_left
                        · simp only [Act.put, List.setIfInBounds_toArray, List.set_cons_zero, List.set_cons_succ, i64_w, i32_w]
                          rfl
                        refine pure_ (i := 10) (N := some 52) (v := ?_) (a' := ?_) #[true, true, true, true, true, true, true, true, true, false, true, false, false, false, false, false, false, false] rfl rfl (any_of HT_.out (by kernel_rfl)) (fun _ _ _ h => h) (Or.inl ⟨by rfl, ?_⟩) ?_ ?_
                        rotate_left
                        · intro w'
                          go_simp
                          with_reducible rfl
                        rotate_left
                        · simp only [Act.put, List.setIfInBounds_toArray, List.set_cons_zero, List.set_cons_succ, i64_w, i32_w]
                          rfl
                        refine pure_ (i := 11) (N := some 53) (v := ?_) (a' := ?_) #[true, true, true, true, true, true, true, true, true, false, true, true, false, false, false, false, false, false] rfl rfl (any_of HT_.out (by kernel_rfl)) (fun _ _ _ h => h) (Or.inl ⟨by rfl, ?_⟩) ?_ ?_
                        rotate_left
                        · intro w'
                          go_simp
                          with_reducible rfl
                        rotate_left
                        · simp only [Act.put, List.setIfInBounds_toArray, List.set_cons_zero, List.set_cons_succ, i64_w, i32_w]
                          rfl
                        refine pure_ (i := 12) (N := some 54) (v := ?_) (a' := ?_) #[true, true, true, true, true, true, true, true, true, false, true, true, true, false, false, false, false, false] rfl rfl (any_of HT_.out (by kernel_rfl)) (fun _ _ _ h => h) (Or.inl ⟨by rfl, ?_⟩) ?_ ?_
                        rotate_left
                        · intro w'
                          go_simp
                          with_reducible rfl
                        rotate_left
                        · simp only [Act.put, List.setIfInBounds_toArray, List.set_cons_zero, List.set_cons_succ, i64_w, i32_w]
                          rfl
                        refine take_ (i := 9) (N := some 51) (v := ?_) (a' := ?_) #[true, true, true, true, true, true, true, true, true, true, true, true, true, false, false, false, false, false] rfl rfl (take_ofW HT_.out HW_.out (by kernel_rfl)) (fun _ _ _ h => h) (Or.inl ⟨by rfl, ?_⟩) hHeld ?_ ?_
                        rotate_left
                        · rintro w' ⟨s0, s1⟩
                          go_simp
                          with_reducible rfl
                        rotate_left
                        · simp only [Act.put, List.setIfInBounds_toArray, List.set_cons_zero, List.set_cons_succ, i64_w, i32_w]
                          rfl
                        refine take_ (i := 13) (N := some 55) (v := ?_) (a' := ?_) #[true, true, true, true, true, true, true, true, true, true, true, true, true, true, false, false, false, false] rfl rfl (take_ofW HT_.out HW_.out (by kernel_rfl)) (fun _ _ _ h => h) (Or.inl ⟨by rfl, ?_⟩) hHeld ?_ ?_
                        rotate_left
                        · rintro w' ⟨s0, s1⟩
                          go_simp
                          with_reducible rfl
                        rotate_left
                        · simp only [Act.put, List.setIfInBounds_toArray, List.set_cons_zero, List.set_cons_succ, i64_w, i32_w]
                          rfl
                        refine pure_ (i := 14) (N := some 56) (v := ?_) (a' := ?_) #[true, true, true, true, true, true, true, true, true, true, true, true, true, true, true, false, false, false] rfl rfl (any_of HT_.out (by kernel_rfl)) (fun _ _ _ h => h) (Or.inl ⟨by rfl, ?_⟩) ?_ ?_
                        rotate_left
                        · intro w'
                          go_simp
                          with_reducible rfl
                        rotate_left
                        · simp only [Act.put, List.setIfInBounds_toArray, List.set_cons_zero, List.set_cons_succ, i64_w, i32_w]
                          rfl
                        refine last_ (i := 15) (N := none) #[true, true, true, true, true, true, true, true, true, true, true, true, true, true, true, true, false, false] rfl rfl (one_of HT_.out (by kernel_rfl)) (by decide) (fun K hK => ?_)
                        refine skip_ (w1 := ?_) (by rfl) rfl ?_ ?_
                        rotate_left
                        · go_simp
                          rfl
                        refine hK.out _ _ ?_
                        clear hK K
                        refine pure_ (i := 16) (N := some 57) (v := ?_) (a' := ?_) #[true, true, true, true, true, true, true, true, true, true, true, true, true, true, true, true, true, false] rfl rfl (any_of HT_.out (by kernel_rfl)) (fun _ _ _ h => h) (Or.inl ⟨by rfl, ?_⟩) ?_ ?_
                        rotate_left
                        · intro w'
                          go_simp
                          with_reducible rfl
                        rotate_left
                        · simp only [Act.put, List.setIfInBounds_toArray, List.set_cons_zero, List.set_cons_succ, i64_w, i32_w]
                          rfl
                        refine last_ (i := 17) (N := none) #[true, true, true, true, true, true, true, true, true, true, true, true, true, true, true, true, true, true] rfl rfl (one_of HT_.out (by kernel_rfl)) (by decide) (fun K hK => ?_)
                        refine skip_ (w1 := ?_) (by rfl) rfl ?_ ?_
                        rotate_left
                        · go_simp
                          rfl
                        refine hK.out _ _ ?_
                        clear hK K
                        refine done_ (done_of HT_.out (by kernel_rfl)) ?_
                        go_upto_if 61 with (fail)
                        go_cut [] (fun wc => ∃ (kq : Nat) (x0_27 : List Int), Aside0 (slices_partialInsertionSortOrdered_uint32.j4 kq x0_27 a1 a2 x7_4 x8_1 = some (r1, r2)) ∧ Aside0 (kq ≤ kj4) ∧ Aside0 (Kd.R (Kd.int .u32) 33 wc w0.heap.size (fun k_ => (P0_ k_ ∨ w.heap.size ≤ k_)) (.slice (some ⟨go26, 0, none⟩) x0_1.length co30) x0_27) ∧ Aside0 (Kept w wc (fun k_ => P0_ k_)) ∧ Aside0 (Below w0.heap.size w0 wc))
                        case first =>
                          have H := HC28.out
                          clear HC28
                          by_cases c33 : (wrap64 (x7_4 - a1)) ≥ 2
                          · rw [if_pos c33] at H
                            have c33b0 : decide (2 ≤ (wrap64 (x7_4 - a1))) = true := decide_eq_true c33
                            clear c33
                            (first | rw [c33b0] | (simp only [i64_w, i32_w]; rw [c33b0]) | skip)
                            have H' := Aside0.mk H
                            clear H
                            go_wp2
                            go_loopg [9] kj4 (fun kq v9 w' => ∃ (x0_3 : List Int) (x9_3 : Int), v9 = .int .i64 x9_3 ∧ Aside0 (slices_partialInsertionSortOrdered_uint32.l2 kq x0_3 a1 a2 x7_4 x8_1 x9_3 = some (r1, r2)) ∧ Aside0 (kq ≤ kj4) ∧ Aside0 (Kd.R (Kd.int .u32) 33 w' w0.heap.size (fun k_ => (P0_ k_ ∨ w.heap.size ≤ k_)) (.slice (some ⟨go26, 0, none⟩) x0_1.length co30) x0_3) ∧ Aside0 (Kept w w' (fun k_ => P0_ k_)) ∧ Aside0 (Below w0.heap.size w0 w'))
                            case atStart => exact ⟨(y189), (ji21), (by first | rfl | (simp; done) | (simp only [← hji21] <;> (first | rfl | simp)) | (simp [*]; done)), H', ⟨Nat.le_refl _⟩, ⟨by (with_reducible repeat (first | apply Kd.R_alloc | apply Kd.R_drewN | apply Kd.R_drew)); exact HQ32.out⟩, ⟨by repeat (first | (with_reducible first | exact HK.out | apply Kept.alloc | apply Kept.drewN | apply Kept.drew | refine Kept.setCell ?_ HMgo26.out _ | refine Kept.setCell ?_ HMgo26.out _) | exact HK.out)⟩, ⟨by repeat (first | (with_reducible first | exact HB.out | apply below_alloc | apply pw_below_drewN | apply below_drew1 | refine below_set ?_ GB26.out | refine below_set ?_ GB26.out) | exact HB.out)⟩⟩
                            case round =>
                              clear H'
                              try clear c1
                              try clear p1
                              try clear q1
                              try clear hx1
                              try clear c2
                              try clear p2
                              try clear q2
                              try clear hx2
                              try clear c3
                              try clear c4
                              try clear c4b0
                              try clear c5
                              try clear c6
                              try clear c6b0
                              try clear p6
                              try clear c7
                              try clear c7b0
                              try clear c8
                              try clear c8b0
                              try clear c10
                              try clear c10b0
                              try clear c11
                              try clear c11b0
                              try clear c13
                              try clear p18
                              try clear q18
                              try clear hx18
                              try clear c19
                              try clear c19b0
                              try clear c19b1
                              try clear c20
                              try clear c20b0
                              try clear c22
                              try clear c22b0
                              try clear c23
                              try clear c23b0
                              try clear c24
                              try clear c24b0
                              try clear c25
                              try clear c25b0
                              try clear p26
                              try clear q26
                              try clear hx26
                              try clear hf26
                              try clear p27
                              try clear q27
                              try clear hx27
                              try clear hf27
                              try clear c33
                              try clear c33b0
                              try clear hx183_0
                              try clear hx184_0
                              try clear hx186_0
                              try clear hx187_0
                              try clear hx26_0
                              try clear hx27_0
                              try clear p1
                              try clear p18
                              try clear p183
                              try clear p184
                              try clear p186
                              try clear p187
                              try clear p2
                              try clear p26
                              try clear p27
                              try clear p6
                              try clear q1
                              try clear q18
                              try clear q183
                              try clear q184
                              try clear q186
                              try clear q187
                              try clear q26
                              try clear q27
                              obtain ⟨x0_3, x9_3, rfl, HA, HK3, HO_0, HK, HB⟩ := hrel
                              have hl0_3 := (Kd.R_reads' HO_0.out).1
                              rw [hl0_3] at HO_0
                              (try simp only [hl0_3])
                              cases gk with
                              | zero => exact absurd HA.out (by simp [slices_partialInsertionSortOrdered_uint32.l2])
                              | succ k3 =>
                                have H := HA.out
                                clear HA
                                simp only [slices_partialInsertionSortOrdered_uint32.l2] at H
                                by_cases c34 : x9_3 ≥ 1
                                · rw [if_pos c34] at H
                                  have c34b0 : decide (1 ≤ x9_3) = true := decide_eq_true c34
                                  clear c34
                                  by_cases c35 : 0 ≤ x9_3
                                  · rw [if_pos c35] at H
                                    have c35b0 : decide (0 ≤ x9_3) = true := decide_eq_true c35
                                    clear c35
                                    by_cases c36 : x9_3 < (x0_3.length : Int)
                                    · rw [if_pos c36] at H
                                      have c36b0 : decide (x9_3 < (x0_3.length : Int)) = true := decide_eq_true c36
                                      clear c36
                                      obtain ⟨ji37, hji37⟩ : ∃ j_ : Int, (wrap64 (x9_3 - 1)) = j_ := ⟨_, rfl⟩
                                      replace H : (if 0 ≤ (ji37) then (if (ji37) < (x0_3.length : Int) then ((cmp_Less_uint32.f (rd x0_3 x9_3) (rd x0_3 (ji37))).bind fun t192 => (if t192 = true then (slices_partialInsertionSortOrdered_uint32.l2 k3 ((x0_3.set (x9_3 : Int).toNat (rd x0_3 (ji37))).set ((ji37) : Int).toNat (rd x0_3 x9_3)) a1 a2 x7_4 x8_1 ji37) else (slices_partialInsertionSortOrdered_uint32.j4 k3 x0_3 a1 a2 x7_4 x8_1))) else (none)) else (none)) = some (r1, r2) := by first | (rw [hji37] at H; exact H) | (simp only [hji37] at H ⊢; exact H)
                                      have hji37w : (IntKind.i64.wrap (x9_3 - 1)) = ji37 := (i64_w _).trans hji37
                                      by_cases c38 : 0 ≤ (ji37)
                                      · rw [if_pos c38] at H
                                        have c38b0 : decide (0 ≤ (ji37)) = true := decide_eq_true c38
                                        clear c38
                                        by_cases c39 : (ji37) < (x0_3.length : Int)
                                        · rw [if_pos c39] at H
                                          have c39b0 : decide ((ji37) < (x0_3.length : Int)) = true := decide_eq_true c39
                                          clear c39
                                          replace H := Option.bind_eq_some_iff.mp H
                                          obtain ⟨t192, A400, H⟩ := H
                                          replace H : (if t192 = true then (slices_partialInsertionSortOrdered_uint32.l2 k3 ((x0_3.set (x9_3 : Int).toNat (rd x0_3 (ji37))).set ((ji37) : Int).toNat (rd x0_3 x9_3)) a1 a2 x7_4 x8_1 ji37) else (slices_partialInsertionSortOrdered_uint32.j4 k3 x0_3 a1 a2 x7_4 x8_1)) = some (r1, r2) := H
                                          have A40 := Aside0.mk A400
                                          clear A400
                                          by_cases c41 : t192 = true
                                          · subst c41
                                            have H1 : (slices_partialInsertionSortOrdered_uint32.l2 k3 ((x0_3.set (x9_3 : Int).toNat (rd x0_3 (ji37))).set ((ji37) : Int).toNat (rd x0_3 x9_3)) a1 a2 x7_4 x8_1 ji37) = some (r1, r2) := by rw [if_pos rfl] at H; exact H
                                            clear H
                                            have H := H1
                                            clear H1
                                            obtain ⟨y195, hy195⟩ : ∃ y_ : List Int, y_ = (x0_3.set (x9_3 : Int).toNat (rd x0_3 (ji37))) := ⟨_, rfl⟩
                                            replace H : (slices_partialInsertionSortOrdered_uint32.l2 k3 (y195.set ((ji37) : Int).toNat (rd x0_3 x9_3)) a1 a2 x7_4 x8_1 ji37) = some (r1, r2) := by first | (rw [hy195]; with_reducible exact H) | (have H2_ := (Option.bind_some _ _).symm.trans H; rw [hy195]; with_reducible exact H2_) | (have H2_ := (Option.bind_some _ _).symm.trans H; with_reducible exact H2_) | with_reducible exact H | (rw [hy195]; exact H) | exact H
                                            have Ny195 := Aside0.mk hy195
                                            clear hy195
                                            obtain ⟨y196, hy196⟩ : ∃ y_ : List Int, y_ = (y195.set ((ji37) : Int).toNat (rd x0_3 x9_3)) := ⟨_, rfl⟩
                                            replace H : (slices_partialInsertionSortOrdered_uint32.l2 k3 y196 a1 a2 x7_4 x8_1 ji37) = some (r1, r2) := by first | (rw [hy196]; with_reducible exact H) | (have H2_ := (Option.bind_some _ _).symm.trans H; rw [hy196]; with_reducible exact H2_) | (have H2_ := (Option.bind_some _ _).symm.trans H; with_reducible exact H2_) | with_reducible exact H | (rw [hy196]; exact H) | exact H
                                            have Ny196 := Aside0.mk hy196
                                            clear hy196
                                            have H' := Aside0.mk H
                                            clear H
                                            try go_wp2
                                            have n0_ := Aside0.mk (Kd.R_drew HO_0.out)
                                            have n1_ := Aside0.mk (Kept.drew HK.out)
                                            have n2_ := Aside0.mk (below_drew1 HB.out)
                                            clear HO_0
                                            clear HK
                                            clear HB
                                            have HO_0 := n0_
                                            have HK := n1_
                                            have HB := n2_
                                            clear n0_ n1_ n2_
                                            have p190 : 0 ≤ (x9_3 : Int) := of_decide_eq_true (by first | (with_reducible assumption) | assumption)
                                            have q190 : x9_3 < (x0_3.length : Int) := of_decide_eq_true (by first | (with_reducible assumption) | assumption)
                                            obtain ⟨ad190, e190, hx190_0⟩ := Kd.at_int (Kd.R_reads' HO_0.out).2.2 x9_3 p190 q190
                                            obtain rfl : (⟨go26, 0, none⟩ : Addr) = ad190 := (by injection e190)
                                            (first | simp only [add_plain] at hx190_0 | simp only [add_at] at hx190_0 | simp only [Addr.add, Nat.zero_add] at hx190_0 | skip)
                                            replace p190 := eq_true p190
                                            replace q190 := eq_true q190
                                            have p191 : 0 ≤ ((ji37) : Int) := of_decide_eq_true (by first | (with_reducible assumption) | assumption)
                                            have q191 : (ji37) < (x0_3.length : Int) := of_decide_eq_true (by first | (with_reducible assumption) | assumption)
                                            obtain ⟨ad191, e191, hx191_0⟩ := Kd.at_int (Kd.R_reads' HO_0.out).2.2 (ji37) p191 q191
                                            obtain rfl : (⟨go26, 0, none⟩ : Addr) = ad191 := (by injection e191)
                                            (first | simp only [add_plain] at hx191_0 | simp only [add_at] at hx191_0 | simp only [Addr.add, Nat.zero_add] at hx191_0 | skip)
                                            replace p191 := eq_true p191
                                            replace q191 := eq_true q191
                                            refine start_ (n := 11) (S := fun w' => w'.cell? ⟨go26, (x9_3).toNat, none⟩ = some (.int .u32 (rd x0_3 x9_3)) ∧ w'.cell? ⟨go26, ((ji37)).toNat, none⟩ = some (.int .u32 (rd x0_3 (ji37)))) (ds := []) #[false, false, false, false, false, false, false, false, false, false, false] (by kernel_rfl) rfl rfl ⟨hx190_0, hx191_0⟩ (fun hHeld => ?_); refine with_tabW slices_partialInsertionSortOrdered_uint32.tab16 slices_partialInsertionSortOrdered_uint32.bits16 (fun HT_ HW_ => ?_)
                                            generalize wr.drew = w44 at HO_0 HK HB hx190_0 hx191_0 hHeld ⊢
                                            refine pure_ (i := 0) (N := some 68) (v := ?_) (a' := ?_) #[true, false, false, false, false, false, false, false, false, false, false] rfl rfl (any_of HT_.out (by kernel_rfl)) (fun _ _ _ h => h) (Or.inl ⟨by rfl, ?_⟩) ?_ ?_
                                            rotate_left
                                            · intro w'
                                              go_simp
                                              with_reducible rfl
                                            rotate_left
                                            · simp only [Act.put, List.setIfInBounds_toArray, List.set_cons_zero, List.set_cons_succ, i64_w, i32_w]
                                              rfl
                                            refine pure_ (i := 1) (N := some 69) (v := ?_) (a' := ?_) #[true, true, false, false, false, false, false, false, false, false, false] rfl rfl (any_of HT_.out (by kernel_rfl)) (fun _ _ _ h => h) (Or.inl ⟨by rfl, ?_⟩) ?_ ?_
                                            rotate_left
                                            · intro w'
                                              go_simp
                                              with_reducible rfl
                                            rotate_left
                                            · simp only [Act.put, List.setIfInBounds_toArray, List.set_cons_zero, List.set_cons_succ, i64_w, i32_w]
                                              rfl
                                            refine pure_ (i := 2) (N := some 70) (v := ?_) (a' := ?_) #[true, true, true, false, false, false, false, false, false, false, false] rfl rfl (any_of HT_.out (by kernel_rfl)) (fun _ _ _ h => h) (Or.inl ⟨by rfl, ?_⟩) ?_ ?_
                                            rotate_left
                                            · intro w'
                                              go_simp
                                              with_reducible rfl
                                            rotate_left
                                            · simp only [Act.put, List.setIfInBounds_toArray, List.set_cons_zero, List.set_cons_succ, i64_w, i32_w]
                                              rfl
                                            refine pure_ (i := 4) (N := some 72) (v := ?_) (a' := ?_) #[true, true, true, false, true, false, false, false, false, false, false] rfl rfl (any_of HT_.out (by kernel_rfl)) (fun _ _ _ h => h) (Or.inl ⟨by rfl, ?_⟩) ?_ ?_
                                            rotate_left
                                            · intro w'
                                              go_simp
                                              with_reducible rfl
                                            rotate_left
                                            · simp only [Act.put, List.setIfInBounds_toArray, List.set_cons_zero, List.set_cons_succ, i64_w, i32_w]
                                              rfl
                                            refine pure_ (i := 5) (N := some 73) (v := ?_) (a' := ?_) #[true, true, true, false, true, true, false, false, false, false, false] rfl rfl (any_of HT_.out (by kernel_rfl)) (fun _ _ _ h => h) (Or.inl ⟨by rfl, ?_⟩) ?_ ?_
                                            rotate_left
                                            · intro w'
                                              go_simp
                                              with_reducible rfl
                                            rotate_left
                                            · simp only [Act.put, List.setIfInBounds_toArray, List.set_cons_zero, List.set_cons_succ, i64_w, i32_w]
                                              rfl
                                            refine pure_ (i := 6) (N := some 74) (v := ?_) (a' := ?_) #[true, true, true, false, true, true, true, false, false, false, false] rfl rfl (any_of HT_.out (by kernel_rfl)) (fun _ _ _ h => h) (Or.inl ⟨by rfl, ?_⟩) ?_ ?_
                                            rotate_left
                                            · intro w'
                                              go_simp
                                              with_reducible rfl
                                            rotate_left
                                            · simp only [Act.put, List.setIfInBounds_toArray, List.set_cons_zero, List.set_cons_succ, i64_w, i32_w]
                                              rfl
                                            refine pure_ (i := 7) (N := some 75) (v := ?_) (a' := ?_) #[true, true, true, false, true, true, true, true, false, false, false] rfl rfl (any_of HT_.out (by kernel_rfl)) (fun _ _ _ h => h) (Or.inl ⟨by rfl, ?_⟩) ?_ ?_
                                            rotate_left
                                            · intro w'
                                              go_simp
                                              with_reducible rfl
                                            rotate_left
                                            · simp only [Act.put, List.setIfInBounds_toArray, List.set_cons_zero, List.set_cons_succ, i64_w, i32_w]
                                              rfl
                                            refine take_ (i := 3) (N := some 71) (v := ?_) (a' := ?_) #[true, true, true, true, true, true, true, true, false, false, false] rfl rfl (take_ofW HT_.out HW_.out (by kernel_rfl)) (fun _ _ _ h => h) (Or.inl ⟨by rfl, ?_⟩) hHeld ?_ ?_
                                            rotate_left
                                            · rintro w' ⟨s0, s1⟩
                                              go_simp
                                              with_reducible rfl
                                            rotate_left
                                            · simp only [Act.put, List.setIfInBounds_toArray, List.set_cons_zero, List.set_cons_succ, i64_w, i32_w]
                                              rfl
                                            refine take_ (i := 8) (N := some 76) (v := ?_) (a' := ?_) #[true, true, true, true, true, true, true, true, true, false, false] rfl rfl (take_ofW HT_.out HW_.out (by kernel_rfl)) (fun _ _ _ h => h) (Or.inl ⟨by rfl, ?_⟩) hHeld ?_ ?_
                                            rotate_left
                                            · rintro w' ⟨s0, s1⟩
                                              go_simp
                                              with_reducible rfl
                                            rotate_left
                                            · simp only [Act.put, List.setIfInBounds_toArray, List.set_cons_zero, List.set_cons_succ, i64_w, i32_w]
                                              rfl
                                            refine one_ (i := 9) (N := some 77) #[true, true, true, true, true, true, true, true, true, true, false] rfl rfl (one_of HT_.out (by kernel_rfl)) (by decide) (fun K hK => ?_)
                                            refine goes_ Tryd.func57 (by kernel_rfl) rfl #[.int .u32 (rd x0_3 x9_3), .int .u32 (rd x0_3 (ji37))] (by rfl) rfl rfl (by (try simp only [List.map_toArray, List.map_cons, List.map_nil]); first | done | (simp only [hji37]; rfl) | rfl | (simp only [List.length_drop, List.length_take]; rfl)) ?_
                                            with_reducible refine (cmp_Less_uint32.calls (rd x0_3 x9_3) (rd x0_3 (ji37)) true _ A40.out).mono ?_
                                            rintro e w' ⟨rfl, ⟨nd, rfl⟩⟩
                                            refine ⟨_, rfl, ?_⟩
                                            refine hK.out _ _ ⟨hHeld.1, hHeld.2⟩ (fun hHeld => ?_)
                                            clear hK K
                                            refine norm_ (a' := ?_) ?_ ?_
                                            rotate_left
                                            · show Act.put _ (some 77) _ = _
                                              simp only [Act.put, List.setIfInBounds_toArray, List.set_cons_zero, List.set_cons_succ, i64_w, i32_w]
                                              rfl
                                            refine pure_ (i := 10) (N := some 78) (v := ?_) (a' := ?_) #[true, true, true, true, true, true, true, true, true, true, true] rfl rfl (any_of HT_.out (by kernel_rfl)) (fun _ _ _ h => h) (Or.inl ⟨by rfl, ?_⟩) ?_ ?_
                                            rotate_left
                                            · intro w'
                                              go_simp
                                              with_reducible rfl
                                            rotate_left
                                            · simp only [Act.put, List.setIfInBounds_toArray, List.set_cons_zero, List.set_cons_succ, i64_w, i32_w]
                                              rfl
                                            refine done_ (done_of HT_.out (by kernel_rfl)) ?_
                                            try go_wp2
                                            (try (rw [drewN_self w44]; generalize hq_ : World.drewN w44 _ = w44; have n0_ : Aside0 (Kd.R (Kd.int .u32) 33 w44 w0.heap.size (fun k_ => (P0_ k_ ∨ w.heap.size ≤ k_)) (.slice (some ⟨go26, 0, none⟩) x0_3.length co30) x0_3) := ⟨by rw [← hq_]; exact (by (with_reducible repeat (first | apply Kd.R_alloc | apply Kd.R_drewN | apply Kd.R_drew)); exact HO_0.out)⟩; have n1_ : Aside0 (Kept w w44 (fun k_ => P0_ k_)) := ⟨by rw [← hq_]; exact (by repeat (first | (with_reducible first | exact HK.out | apply Kept.alloc | apply Kept.drewN | apply Kept.drew) | exact HK.out))⟩; have n2_ : Aside0 (Below w0.heap.size w0 w44) := ⟨by rw [← hq_]; exact (by repeat (first | (with_reducible first | exact HB.out | apply below_alloc | apply pw_below_drewN | apply below_drew1) | exact HB.out))⟩; clear HO_0 HK HB hq_; have HO_0 := n0_; have HK := n1_; have HB := n2_; clear n0_ n1_ n2_))
                                            have n0_ := Aside0.mk (Kd.R_drew HO_0.out)
                                            have n1_ := Aside0.mk (Kept.drew HK.out)
                                            have n2_ := Aside0.mk (below_drew1 HB.out)
                                            clear HO_0
                                            clear HK
                                            clear HB
                                            have HO_0 := n0_
                                            have HK := n1_
                                            have HB := n2_
                                            clear n0_ n1_ n2_
                                            have p193 : 0 ≤ ((ji37) : Int) := of_decide_eq_true (by first | (with_reducible assumption) | assumption)
                                            have q193 : (ji37) < (x0_3.length : Int) := of_decide_eq_true (by first | (with_reducible assumption) | assumption)
                                            obtain ⟨ad193, e193, hx193_0⟩ := Kd.at_int (Kd.R_reads' HO_0.out).2.2 (ji37) p193 q193
                                            obtain rfl : (⟨go26, 0, none⟩ : Addr) = ad193 := (by injection e193)
                                            (first | simp only [add_plain] at hx193_0 | simp only [add_at] at hx193_0 | simp only [Addr.add, Nat.zero_add] at hx193_0 | skip)
                                            replace p193 := eq_true p193
                                            replace q193 := eq_true q193
                                            have p194 : 0 ≤ (x9_3 : Int) := of_decide_eq_true (by first | (with_reducible assumption) | assumption)
                                            have q194 : x9_3 < (x0_3.length : Int) := of_decide_eq_true (by first | (with_reducible assumption) | assumption)
                                            obtain ⟨ad194, e194, hx194_0⟩ := Kd.at_int (Kd.R_reads' HO_0.out).2.2 x9_3 p194 q194
                                            obtain rfl : (⟨go26, 0, none⟩ : Addr) = ad194 := (by injection e194)
                                            (first | simp only [add_plain] at hx194_0 | simp only [add_at] at hx194_0 | simp only [Addr.add, Nat.zero_add] at hx194_0 | skip)
                                            replace p194 := eq_true p194
                                            replace q194 := eq_true q194
                                            have p42 : 0 ≤ (x9_3 : Int) := of_decide_eq_true (by first | (with_reducible assumption) | assumption)
                                            have q42 : (x9_3 : Int) < ((x0_3.length : Int) : Int) := of_decide_eq_true (by first | (with_reducible assumption) | assumption)
                                            obtain ⟨hx42_0, hf42_0⟩ := Kd.R_celln 0 HO_0.out (x9_3 : Int) p42 q42
                                            replace p42 := eq_true p42
                                            replace q42 := eq_true q42
                                            have HP46 := Kd.R_putn HO_0.out (x9_3 : Int) (rd x0_3 (ji37))
                                            rw [← Ny195.out] at HP46
                                            have HQ46 := Aside0.mk HP46
                                            clear HP46
                                            have p43 : 0 ≤ ((ji37) : Int) := of_decide_eq_true (by first | (with_reducible assumption) | assumption)
                                            have q43 : ((ji37) : Int) < ((x0_3.length : Int) : Int) := of_decide_eq_true (by first | (with_reducible assumption) | assumption)
                                            obtain ⟨hx43_0, hf43_0⟩ := Kd.R_celln 0 HQ46.out ((ji37) : Int) p43 q43
                                            replace p43 := eq_true p43
                                            replace q43 := eq_true q43
                                            have HP47 := Kd.R_putn HQ46.out ((ji37) : Int) (rd x0_3 x9_3)
                                            rw [← Ny196.out] at HP47
                                            have HQ47 := Aside0.mk HP47
                                            clear HP47
                                            refine start_ (n := 18) (S := fun w' => w'.cell? ⟨go26, ((ji37)).toNat, none⟩ = some (.int .u32 (rd x0_3 (ji37))) ∧ w'.cell? ⟨go26, (x9_3).toNat, none⟩ = some (.int .u32 (rd x0_3 x9_3))) (ds := [15, 17]) #[false, false, false, false, false, false, false, false, false, false, false, false, false, false, false, false, false, false] (by kernel_rfl) rfl rfl ⟨hx193_0, hx194_0⟩ (fun hHeld => ?_); refine with_tabW slices_partialInsertionSortOrdered_uint32.tab17 slices_partialInsertionSortOrdered_uint32.bits17 (fun HT_ HW_ => ?_)
                                            generalize w44.drew = w45 at HO_0 HK HB HQ46 HQ47 hf42_0 hf43_0 hx193_0 hx194_0 hx42_0 hx43_0 hHeld ⊢
                                            refine pure_ (i := 0) (N := some 79) (v := ?_) (a' := ?_) #[true, false, false, false, false, false, false, false, false, false, false, false, false, false, false, false, false, false] rfl rfl (any_of HT_.out (by kernel_rfl)) (fun _ _ _ h => h) (Or.inl ⟨by rfl, ?_⟩) ?_ ?_
                                            rotate_left
                                            · intro w'
                                              go_simp
                                              with_reducible rfl
                                            rotate_left
                                            · simp only [Act.put, List.setIfInBounds_toArray, List.set_cons_zero, List.set_cons_succ, i64_w, i32_w]
                                              rfl
                                            refine pure_ (i := 1) (N := some 80) (v := ?_) (a' := ?_) #[true, true, false, false, false, false, false, false, false, false, false, false, false, false, false, false, false, false] rfl rfl (any_of HT_.out (by kernel_rfl)) (fun _ _ _ h => h) (Or.inl ⟨by rfl, ?_⟩) ?_ ?_
                                            rotate_left
                                            · intro w'
                                              go_simp
                                              with_reducible rfl
                                            rotate_left
                                            · simp only [Act.put, List.setIfInBounds_toArray, List.set_cons_zero, List.set_cons_succ, i64_w, i32_w]
                                              rfl
                                            refine pure_ (i := 2) (N := some 81) (v := ?_) (a' := ?_) #[true, true, true, false, false, false, false, false, false, false, false, false, false, false, false, false, false, false] rfl rfl (any_of HT_.out (by kernel_rfl)) (fun _ _ _ h => h) (Or.inl ⟨by rfl, ?_⟩) ?_ ?_
                                            rotate_left
                                            · intro w'
                                              go_simp
                                              with_reducible rfl
                                            rotate_left
                                            · simp only [Act.put, List.setIfInBounds_toArray, List.set_cons_zero, List.set_cons_succ, i64_w, i32_w]
                                              rfl
                                            refine pure_ (i := 3) (N := some 82) (v := ?_) (a' := ?_) #[true, true, true, true, false, false, false, false, false, false, false, false, false, false, false, false, false, false] rfl rfl (any_of HT_.out (by kernel_rfl)) (fun _ _ _ h => h) (Or.inl ⟨by rfl, ?_⟩) ?_ ?_
                                            rotate_left
                                            · intro w'
                                              go_simp
                                              with_reducible rfl
                                            rotate_left
                                            · simp only [Act.put, List.setIfInBounds_toArray, List.set_cons_zero, List.set_cons_succ, i64_w, i32_w]
                                              rfl
                                            refine pure_ (i := 4) (N := some 83) (v := ?_) (a' := ?_) #[true, true, true, true, true, false, false, false, false, false, false, false, false, false, false, false, false, false] rfl rfl (any_of HT_.out (by kernel_rfl)) (fun _ _ _ h => h) (Or.inl ⟨by rfl, ?_⟩) ?_ ?_
                                            rotate_left
                                            · intro w'
                                              go_simp
                                              with_reducible rfl
                                            rotate_left
                                            · simp only [Act.put, List.setIfInBounds_toArray, List.set_cons_zero, List.set_cons_succ, i64_w, i32_w]
                                              rfl
                                            refine pure_ (i := 5) (N := some 84) (v := ?_) (a' := ?_) #[true, true, true, true, true, true, false, false, false, false, false, false, false, false, false, false, false, false] rfl rfl (any_of HT_.out (by kernel_rfl)) (fun _ _ _ h => h) (Or.inl ⟨by rfl, ?_⟩) ?_ ?_
                                            rotate_left
                                            · intro w'
                                              go_simp
                                              with_reducible rfl
                                            rotate_left
                                            · simp only [Act.put, List.setIfInBounds_toArray, List.set_cons_zero, List.set_cons_succ, i64_w, i32_w]
                                              rfl
                                            refine pure_ (i := 6) (N := some 85) (v := ?_) (a' := ?_) #[true, true, true, true, true, true, true, false, false, false, false, false, false, false, false, false, false, false] rfl rfl (any_of HT_.out (by kernel_rfl)) (fun _ _ _ h => h) (Or.inl ⟨by rfl, ?_⟩) ?_ ?_
                                            rotate_left
                                            · intro w'
                                              go_simp
                                              with_reducible rfl
                                            rotate_left
                                            · simp only [Act.put, List.setIfInBounds_toArray, List.set_cons_zero, List.set_cons_succ, i64_w, i32_w]
                                              rfl
                                            refine pure_ (i := 7) (N := some 86) (v := ?_) (a' := ?_) #[true, true, true, true, true, true, true, true, false, false, false, false, false, false, false, false, false, false] rfl rfl (any_of HT_.out (by kernel_rfl)) (fun _ _ _ h => h) (Or.inl ⟨by rfl, ?_⟩) ?_ ?_
                                            rotate_left
                                            · intro w'
                                              go_simp
                                              with_reducible rfl
                                            rotate_left
                                            · simp only [Act.put, List.setIfInBounds_toArray, List.set_cons_zero, List.set_cons_succ, i64_w, i32_w]
                                              rfl
                                            refine pure_ (i := 8) (N := some 87) (v := ?_) (a' := ?_) #[true, true, true, true, true, true, true, true, true, false, false, false, false, false, false, false, false, false] rfl rfl (any_of HT_.out (by kernel_rfl)) (fun _ _ _ h => h) (Or.inl ⟨by rfl, ?_⟩) ?_ ?_
                                            rotate_left
                                            · intro w'
                                              go_simp
                                              with_reducible rfl
                                            rotate_left
                                            · simp only [Act.put, List.setIfInBounds_toArray, List.set_cons_zero, List.set_cons_succ, i64_w, i32_w]
                                              rfl
                                            refine pure_ (i := 10) (N := some 89) (v := ?_) (a' := ?_) #[true, true, true, true, true, true, true, true, true, false, true, false, false, false, false, false, false, false] rfl rfl (any_of HT_.out (by kernel_rfl)) (fun _ _ _ h => h) (Or.inl ⟨by rfl, ?_⟩) ?_ ?_
                                            rotate_left
                                            · intro w'
                                              go_simp
                                              with_reducible rfl
                                            rotate_left
                                            · simp only [Act.put, List.setIfInBounds_toArray, List.set_cons_zero, List.set_cons_succ, i64_w, i32_w]
                                              rfl
                                            refine pure_ (i := 11) (N := some 90) (v := ?_) (a' := ?_) #[true, true, true, true, true, true, true, true, true, false, true, true, false, false, false, false, false, false] rfl rfl (any_of HT_.out (by kernel_rfl)) (fun _ _ _ h => h) (Or.inl ⟨by rfl, ?_⟩) ?_ ?_
                                            rotate_left
                                            · intro w'
                                              go_simp
                                              with_reducible rfl
                                            rotate_left
                                            · simp only [Act.put, List.setIfInBounds_toArray, List.set_cons_zero, List.set_cons_succ, i64_w, i32_w]
                                              rfl
                                            refine pure_ (i := 12) (N := some 91) (v := ?_) (a' := ?_) #[true, true, true, true, true, true, true, true, true, false, true, true, true, false, false, false, false, false] rfl rfl (any_of HT_.out (by kernel_rfl)) (fun _ _ _ h => h) (Or.inl ⟨by rfl, ?_⟩) ?_ ?_
                                            rotate_left
                                            · intro w'
                                              go_simp
                                              with_reducible rfl
                                            rotate_left
                                            · simp only [Act.put, List.setIfInBounds_toArray, List.set_cons_zero, List.set_cons_succ, i64_w, i32_w]
                                              rfl
                                            refine take_ (i := 9) (N := some 88) (v := ?_) (a' := ?_) #[true, true, true, true, true, true, true, true, true, true, true, true, true, false, false, false, false, false] rfl rfl (take_ofW HT_.out HW_.out (by kernel_rfl)) (fun _ _ _ h => h) (Or.inl ⟨by rfl, ?_⟩) hHeld ?_ ?_
                                            rotate_left
                                            · rintro w' ⟨s0, s1⟩
                                              go_simp
                                              with_reducible rfl
                                            rotate_left
                                            · simp only [Act.put, List.setIfInBounds_toArray, List.set_cons_zero, List.set_cons_succ, i64_w, i32_w]
                                              rfl
                                            refine take_ (i := 13) (N := some 92) (v := ?_) (a' := ?_) #[true, true, true, true, true, true, true, true, true, true, true, true, true, true, false, false, false, false] rfl rfl (take_ofW HT_.out HW_.out (by kernel_rfl)) (fun _ _ _ h => h) (Or.inl ⟨by rfl, ?_⟩) hHeld ?_ ?_
                                            rotate_left
                                            · rintro w' ⟨s0, s1⟩
                                              go_simp
                                              with_reducible rfl
                                            rotate_left
                                            · simp only [Act.put, List.setIfInBounds_toArray, List.set_cons_zero, List.set_cons_succ, i64_w, i32_w]
                                              rfl
                                            refine pure_ (i := 14) (N := some 93) (v := ?_) (a' := ?_) #[true, true, true, true, true, true, true, true, true, true, true, true, true, true, true, false, false, false] rfl rfl (any_of HT_.out (by kernel_rfl)) (fun _ _ _ h => h) (Or.inl ⟨by rfl, ?_⟩) ?_ ?_
                                            rotate_left
                                            · intro w'
                                              go_simp
                                              with_reducible rfl
                                            rotate_left
                                            · simp only [Act.put, List.setIfInBounds_toArray, List.set_cons_zero, List.set_cons_succ, i64_w, i32_w]
                                              rfl
                                            refine last_ (i := 15) (N := none) #[true, true, true, true, true, true, true, true, true, true, true, true, true, true, true, true, false, false] rfl rfl (one_of HT_.out (by kernel_rfl)) (by decide) (fun K hK => ?_)
                                            refine skip_ (w1 := ?_) (by rfl) rfl ?_ ?_
                                            rotate_left
                                            · go_simp
                                              rfl
                                            refine hK.out _ _ ?_
                                            clear hK K
                                            refine pure_ (i := 16) (N := some 94) (v := ?_) (a' := ?_) #[true, true, true, true, true, true, true, true, true, true, true, true, true, true, true, true, true, false] rfl rfl (any_of HT_.out (by kernel_rfl)) (fun _ _ _ h => h) (Or.inl ⟨by rfl, ?_⟩) ?_ ?_
                                            rotate_left
                                            · intro w'
                                              go_simp
                                              with_reducible rfl
                                            rotate_left
                                            · simp only [Act.put, List.setIfInBounds_toArray, List.set_cons_zero, List.set_cons_succ, i64_w, i32_w]
                                              rfl
                                            refine last_ (i := 17) (N := none) #[true, true, true, true, true, true, true, true, true, true, true, true, true, true, true, true, true, true] rfl rfl (one_of HT_.out (by kernel_rfl)) (by decide) (fun K hK => ?_)
                                            refine skip_ (w1 := ?_) (by rfl) rfl ?_ ?_
                                            rotate_left
                                            · go_simp
                                              rfl
                                            refine hK.out _ _ ?_
                                            clear hK K
                                            refine done_ (done_of HT_.out (by kernel_rfl)) ?_
                                            try go_wp2
                                            (try simp only [← hl0_3])
                                            go_roundg k3
                                            case measure => have := HK1.out; have := HJ4.out; have := HK3.out; omega
                                            case rel => exact ⟨(y196), (ji37), (by first | rfl | (simp; done) | (simp only [← hji37] <;> (first | rfl | simp)) | (simp [*]; done)), H', ⟨by have := HK1.out; have := HJ4.out; have := HK3.out; omega⟩, ⟨by (try simp only [hl0_3]); (with_reducible repeat (first | apply Kd.R_alloc | apply Kd.R_drewN | apply Kd.R_drew)); exact HQ47.out⟩, ⟨by repeat (first | (with_reducible first | exact HK.out | apply Kept.alloc | apply Kept.drewN | apply Kept.drew | refine Kept.setCell ?_ HMgo26.out _ | refine Kept.setCell ?_ HMgo26.out _) | exact HK.out)⟩, ⟨by repeat (first | (with_reducible first | exact HB.out | apply below_alloc | apply pw_below_drewN | apply below_drew1 | refine below_set ?_ GB26.out | refine below_set ?_ GB26.out) | exact HB.out)⟩⟩
                                          · replace c41 := Bool.eq_false_iff.mpr c41
                                            subst c41
                                            have H1 : (slices_partialInsertionSortOrdered_uint32.j4 k3 x0_3 a1 a2 x7_4 x8_1) = some (r1, r2) := by rw [if_neg (show ¬ (false = true) by decide)] at H; exact H
                                            clear H
                                            have H := H1
                                            clear H1
                                            have H' := Aside0.mk H
                                            clear H
                                            try go_wp2
                                            have n0_ := Aside0.mk (Kd.R_drew HO_0.out)
                                            have n1_ := Aside0.mk (Kept.drew HK.out)
                                            have n2_ := Aside0.mk (below_drew1 HB.out)
                                            clear HO_0
                                            clear HK
                                            clear HB
                                            have HO_0 := n0_
                                            have HK := n1_
                                            have HB := n2_
                                            clear n0_ n1_ n2_
                                            have p190 : 0 ≤ (x9_3 : Int) := of_decide_eq_true (by first | (with_reducible assumption) | assumption)
                                            have q190 : x9_3 < (x0_3.length : Int) := of_decide_eq_true (by first | (with_reducible assumption) | assumption)
                                            obtain ⟨ad190, e190, hx190_0⟩ := Kd.at_int (Kd.R_reads' HO_0.out).2.2 x9_3 p190 q190
                                            obtain rfl : (⟨go26, 0, none⟩ : Addr) = ad190 := (by injection e190)
                                            (first | simp only [add_plain] at hx190_0 | simp only [add_at] at hx190_0 | simp only [Addr.add, Nat.zero_add] at hx190_0 | skip)
                                            replace p190 := eq_true p190
                                            replace q190 := eq_true q190
                                            have p191 : 0 ≤ ((ji37) : Int) := of_decide_eq_true (by first | (with_reducible assumption) | assumption)
                                            have q191 : (ji37) < (x0_3.length : Int) := of_decide_eq_true (by first | (with_reducible assumption) | assumption)
                                            obtain ⟨ad191, e191, hx191_0⟩ := Kd.at_int (Kd.R_reads' HO_0.out).2.2 (ji37) p191 q191
                                            obtain rfl : (⟨go26, 0, none⟩ : Addr) = ad191 := (by injection e191)
                                            (first | simp only [add_plain] at hx191_0 | simp only [add_at] at hx191_0 | simp only [Addr.add, Nat.zero_add] at hx191_0 | skip)
                                            replace p191 := eq_true p191
                                            replace q191 := eq_true q191
                                            refine start_ (n := 11) (S := fun w' => w'.cell? ⟨go26, (x9_3).toNat, none⟩ = some (.int .u32 (rd x0_3 x9_3)) ∧ w'.cell? ⟨go26, ((ji37)).toNat, none⟩ = some (.int .u32 (rd x0_3 (ji37)))) (ds := []) #[false, false, false, false, false, false, false, false, false, false, false] (by kernel_rfl) rfl rfl ⟨hx190_0, hx191_0⟩ (fun hHeld => ?_); refine with_tabW slices_partialInsertionSortOrdered_uint32.tab16 slices_partialInsertionSortOrdered_uint32.bits16 (fun HT_ HW_ => ?_)
                                            generalize wr.drew = w48 at HO_0 HK HB hx190_0 hx191_0 hHeld ⊢
                                            refine pure_ (i := 0) (N := some 68) (v := ?_) (a' := ?_) #[true, false, false, false, false, false, false, false, false, false, false] rfl rfl (any_of HT_.out (by kernel_rfl)) (fun _ _ _ h => h) (Or.inl ⟨by rfl, ?_⟩) ?_ ?_
                                            rotate_left
                                            · intro w'
                                              go_simp
                                              with_reducible rfl
                                            rotate_left
                                            · simp only [Act.put, List.setIfInBounds_toArray, List.set_cons_zero, List.set_cons_succ, i64_w, i32_w]
                                              rfl
                                            refine pure_ (i := 1) (N := some 69) (v := ?_) (a' := ?_) #[true, true, false, false, false, false, false, false, false, false, false] rfl rfl (any_of HT_.out (by kernel_rfl)) (fun _ _ _ h => h) (Or.inl ⟨by rfl, ?_⟩) ?_ ?_
                                            rotate_left
                                            · intro w'
                                              go_simp
                                              with_reducible rfl
                                            rotate_left
                                            · simp only [Act.put, List.setIfInBounds_toArray, List.set_cons_zero, List.set_cons_succ, i64_w, i32_w]
                                              rfl
                                            refine pure_ (i := 2) (N := some 70) (v := ?_) (a' := ?_) #[true, true, true, false, false, false, false, false, false, false, false] rfl rfl (any_of HT_.out (by kernel_rfl)) (fun _ _ _ h => h) (Or.inl ⟨by rfl, ?_⟩) ?_ ?_
                                            rotate_left
                                            · intro w'
                                              go_simp
                                              with_reducible rfl
                                            rotate_left
                                            · simp only [Act.put, List.setIfInBounds_toArray, List.set_cons_zero, List.set_cons_succ, i64_w, i32_w]
                                              rfl
                                            refine pure_ (i := 4) (N := some 72) (v := ?_) (a' := ?_) #[true, true, true, false, true, false, false, false, false, false, false] rfl rfl (any_of HT_.out (by kernel_rfl)) (fun _ _ _ h => h) (Or.inl ⟨by rfl, ?_⟩) ?_ ?_
                                            rotate_left
                                            · intro w'
                                              go_simp
                                              with_reducible rfl
                                            rotate_left
                                            · simp only [Act.put, List.setIfInBounds_toArray, List.set_cons_zero, List.set_cons_succ, i64_w, i32_w]
                                              rfl
                                            refine pure_ (i := 5) (N := some 73) (v := ?_) (a' := ?_) #[true, true, true, false, true, true, false, false, false, false, false] rfl rfl (any_of HT_.out (by kernel_rfl)) (fun _ _ _ h => h) (Or.inl ⟨by rfl, ?_⟩) ?_ ?_
                                            rotate_left
                                            · intro w'
                                              go_simp
                                              with_reducible rfl
                                            rotate_left
                                            · simp only [Act.put, List.setIfInBounds_toArray, List.set_cons_zero, List.set_cons_succ, i64_w, i32_w]
                                              rfl
                                            refine pure_ (i := 6) (N := some 74) (v := ?_) (a' := ?_) #[true, true, true, false, true, true, true, false, false, false, false] rfl rfl (any_of HT_.out (by kernel_rfl)) (fun _ _ _ h => h) (Or.inl ⟨by rfl, ?_⟩) ?_ ?_
                                            rotate_left
                                            · intro w'
                                              go_simp
                                              with_reducible rfl
                                            rotate_left
                                            · simp only [Act.put, List.setIfInBounds_toArray, List.set_cons_zero, List.set_cons_succ, i64_w, i32_w]
                                              rfl
                                            refine pure_ (i := 7) (N := some 75) (v := ?_) (a' := ?_) #[true, true, true, false, true, true, true, true, false, false, false] rfl rfl (any_of HT_.out (by kernel_rfl)) (fun _ _ _ h => h) (Or.inl ⟨by rfl, ?_⟩) ?_ ?_
                                            rotate_left
                                            · intro w'
                                              go_simp
                                              with_reducible rfl
                                            rotate_left
                                            · simp only [Act.put, List.setIfInBounds_toArray, List.set_cons_zero, List.set_cons_succ, i64_w, i32_w]
                                              rfl
                                            refine take_ (i := 3) (N := some 71) (v := ?_) (a' := ?_) #[true, true, true, true, true, true, true, true, false, false, false] rfl rfl (take_ofW HT_.out HW_.out (by kernel_rfl)) (fun _ _ _ h => h) (Or.inl ⟨by rfl, ?_⟩) hHeld ?_ ?_
                                            rotate_left
                                            · rintro w' ⟨s0, s1⟩
                                              go_simp
                                              with_reducible rfl
                                            rotate_left
                                            · simp only [Act.put, List.setIfInBounds_toArray, List.set_cons_zero, List.set_cons_succ, i64_w, i32_w]
                                              rfl
                                            refine take_ (i := 8) (N := some 76) (v := ?_) (a' := ?_) #[true, true, true, true, true, true, true, true, true, false, false] rfl rfl (take_ofW HT_.out HW_.out (by kernel_rfl)) (fun _ _ _ h => h) (Or.inl ⟨by rfl, ?_⟩) hHeld ?_ ?_
                                            rotate_left
                                            · rintro w' ⟨s0, s1⟩
                                              go_simp
                                              with_reducible rfl
                                            rotate_left
                                            · simp only [Act.put, List.setIfInBounds_toArray, List.set_cons_zero, List.set_cons_succ, i64_w, i32_w]
                                              rfl
                                            refine one_ (i := 9) (N := some 77) #[true, true, true, true, true, true, true, true, true, true, false] rfl rfl (one_of HT_.out (by kernel_rfl)) (by decide) (fun K hK => ?_)
                                            refine goes_ Tryd.func57 (by kernel_rfl) rfl #[.int .u32 (rd x0_3 x9_3), .int .u32 (rd x0_3 (ji37))] (by rfl) rfl rfl (by (try simp only [List.map_toArray, List.map_cons, List.map_nil]); first | done | (simp only [hji37]; rfl) | rfl | (simp only [List.length_drop, List.length_take]; rfl)) ?_
                                            with_reducible refine (cmp_Less_uint32.calls (rd x0_3 x9_3) (rd x0_3 (ji37)) false _ A40.out).mono ?_
                                            rintro e w' ⟨rfl, ⟨nd, rfl⟩⟩
                                            refine ⟨_, rfl, ?_⟩
                                            refine hK.out _ _ ⟨hHeld.1, hHeld.2⟩ (fun hHeld => ?_)
                                            clear hK K
                                            refine norm_ (a' := ?_) ?_ ?_
                                            rotate_left
                                            · show Act.put _ (some 77) _ = _
                                              simp only [Act.put, List.setIfInBounds_toArray, List.set_cons_zero, List.set_cons_succ, i64_w, i32_w]
                                              rfl
                                            refine pure_ (i := 10) (N := some 78) (v := ?_) (a' := ?_) #[true, true, true, true, true, true, true, true, true, true, true] rfl rfl (any_of HT_.out (by kernel_rfl)) (fun _ _ _ h => h) (Or.inl ⟨by rfl, ?_⟩) ?_ ?_
                                            rotate_left
                                            · intro w'
                                              go_simp
                                              with_reducible rfl
                                            rotate_left
                                            · simp only [Act.put, List.setIfInBounds_toArray, List.set_cons_zero, List.set_cons_succ, i64_w, i32_w]
                                              rfl
                                            refine done_ (done_of HT_.out (by kernel_rfl)) ?_
                                            try go_wp2
                                            (try simp only [← hl0_3])
                                            go_meet
                                            case rel => exact ⟨_, (x0_3), H', ⟨by have := HK1.out; have := HJ4.out; have := HK3.out; first | omega | exact Nat.le_refl _⟩, ⟨by (try simp only [hl0_3]); (with_reducible repeat (first | apply Kd.R_alloc | apply Kd.R_drewN | apply Kd.R_drew)); exact HO_0.out⟩, ⟨by repeat (first | (with_reducible first | exact HK.out | apply Kept.alloc | apply Kept.drewN | apply Kept.drew) | exact HK.out)⟩, ⟨by repeat (first | (with_reducible first | exact HB.out | apply below_alloc | apply pw_below_drewN | apply below_drew1) | exact HB.out)⟩⟩
                                        · rw [if_neg c39] at H
                                          exact absurd H (by simp)
                                      · rw [if_neg c38] at H
                                        exact absurd H (by simp)
                                    · rw [if_neg c36] at H
                                      exact absurd H (by simp)
                                  · rw [if_neg c35] at H
                                    exact absurd H (by simp)
                                · rw [if_neg c34] at H
                                  have c34b0 : decide (1 ≤ x9_3) = false := decide_eq_false c34
                                  clear c34
                                  have H' := Aside0.mk H
                                  clear H
                                  go_wp2
                                  (try simp only [← hl0_3])
                                  go_meet
                                  case rel => exact ⟨_, (x0_3), H', ⟨by have := HK1.out; have := HJ4.out; have := HK3.out; first | omega | exact Nat.le_refl _⟩, ⟨by (try simp only [hl0_3]); (with_reducible repeat (first | apply Kd.R_alloc | apply Kd.R_drewN | apply Kd.R_drew)); exact HO_0.out⟩, ⟨by repeat (first | (with_reducible first | exact HK.out | apply Kept.alloc | apply Kept.drewN | apply Kept.drew) | exact HK.out)⟩, ⟨by repeat (first | (with_reducible first | exact HB.out | apply below_alloc | apply pw_below_drewN | apply below_drew1) | exact HB.out)⟩⟩
                          · rw [if_neg c33] at H
                            have c33b0 : decide (2 ≤ (wrap64 (x7_4 - a1))) = false := decide_eq_false c33
                            clear c33
                            (first | rw [c33b0] | (simp only [i64_w, i32_w]; rw [c33b0]) | skip)
                            have H' := Aside0.mk H
                            clear H
                            go_wp2
                            go_meet
                            case rel => exact ⟨_, (y189), H', ⟨by have := HK1.out; have := HJ4.out; first | omega | exact Nat.le_refl _⟩, ⟨by (with_reducible repeat (first | apply Kd.R_alloc | apply Kd.R_drewN | apply Kd.R_drew)); exact HQ32.out⟩, ⟨by repeat (first | (with_reducible first | exact HK.out | apply Kept.alloc | apply Kept.drewN | apply Kept.drew | refine Kept.setCell ?_ HMgo26.out _ | refine Kept.setCell ?_ HMgo26.out _) | exact HK.out)⟩, ⟨by repeat (first | (with_reducible first | exact HB.out | apply below_alloc | apply pw_below_drewN | apply below_drew1 | refine below_set ?_ GB26.out | refine below_set ?_ GB26.out) | exact HB.out)⟩⟩
                        case rest =>
                          clear HC28
                          try clear c1
                          try clear p1
                          try clear q1
                          try clear hx1
                          try clear c2
                          try clear p2
                          try clear q2
                          try clear hx2
                          try clear c3
                          try clear c4
                          try clear c4b0
                          try clear p4
                          try clear q4
                          try clear hx4
                          try clear hf4
                          try clear c5
                          try clear c6
                          try clear c6b0
                          try clear p6
                          try clear c7
                          try clear c7b0
                          try clear c8
                          try clear c8b0
                          try clear c10
                          try clear c10b0
                          try clear c11
                          try clear c11b0
                          try clear c13
                          try clear p18
                          try clear q18
                          try clear hx18
                          try clear c19
                          try clear c19b0
                          try clear c19b1
                          try clear p19
                          try clear q19
                          try clear hx19
                          try clear c20
                          try clear c20b0
                          try clear c22
                          try clear c22b0
                          try clear c23
                          try clear c23b0
                          try clear c24
                          try clear c24b0
                          try clear c25
                          try clear c25b0
                          try clear p26
                          try clear q26
                          try clear hx26
                          try clear hf26
                          try clear p27
                          try clear q27
                          try clear hx27
                          try clear hf27
                          try clear c33
                          try clear c33b0
                          try clear c34
                          try clear c34b0
                          try clear c35
                          try clear c35b0
                          try clear c36
                          try clear c36b0
                          try clear c38
                          try clear c38b0
                          try clear c39
                          try clear c39b0
                          try clear c41
                          try clear p42
                          try clear q42
                          try clear hx42
                          try clear hf42
                          try clear p43
                          try clear q43
                          try clear hx43
                          try clear hf43
                          try clear hx183_0
                          try clear hx184_0
                          try clear hx186_0
                          try clear hx187_0
                          try clear hx190_0
                          try clear hx191_0
                          try clear hx193_0
                          try clear hx194_0
                          try clear hx26_0
                          try clear hx27_0
                          try clear hx42_0
                          try clear hx43_0
                          try clear p1
                          try clear p18
                          try clear p183
                          try clear p184
                          try clear p186
                          try clear p187
                          try clear p190
                          try clear p191
                          try clear p193
                          try clear p194
                          try clear p2
                          try clear p26
                          try clear p27
                          try clear p42
                          try clear p43
                          try clear p6
                          try clear q1
                          try clear q18
                          try clear q183
                          try clear q184
                          try clear q186
                          try clear q187
                          try clear q190
                          try clear q191
                          try clear q193
                          try clear q194
                          try clear q2
                          try clear q26
                          try clear q27
                          try clear q42
                          try clear q43
                          obtain ⟨kq, x0_27, HA, HJ27, HO_0, HK, HB⟩ := hcut
                          have hl0_27 := (Kd.R_reads' HO_0.out).1
                          rw [hl0_27] at HO_0
                          (try simp only [hl0_27])
                          cases kq with
                          | zero => exact absurd HA.out (by simp [slices_partialInsertionSortOrdered_uint32.j4])
                          | succ kj27 =>
                            have H := HA.out
                            clear HA
                            simp only [slices_partialInsertionSortOrdered_uint32.j4] at H
                            by_cases c49 : (wrap64 (a2 - x7_4)) ≥ 2
                            · rw [if_pos c49] at H
                              have c49b0 : decide (2 ≤ (wrap64 (a2 - x7_4))) = true := decide_eq_true c49
                              clear c49
                              have H' := Aside0.mk H
                              clear H
                              go_wp2
                              go_loopg [10] kj27 (fun kq v10 w' => ∃ (x0_4 : List Int) (x10_4 : Int), v10 = .int .i64 x10_4 ∧ Aside0 (slices_partialInsertionSortOrdered_uint32.l3 kq x0_4 a1 a2 x7_4 x8_1 x10_4 = some (r1, r2)) ∧ Aside0 (kq ≤ kj27) ∧ Aside0 (Kd.R (Kd.int .u32) 33 w' w0.heap.size (fun k_ => (P0_ k_ ∨ w.heap.size ≤ k_)) (.slice (some ⟨go26, 0, none⟩) x0_27.length co30) x0_4) ∧ Aside0 (Kept w w' (fun k_ => P0_ k_)) ∧ Aside0 (Below w0.heap.size w0 w'))
                              case atStart => exact ⟨(x0_27), (wrap64 (x7_4 + 1)), (by first | rfl | (simp; done) | (simp [*]; done)), H', ⟨Nat.le_refl _⟩, ⟨by (try simp only [hl0_27]); (with_reducible repeat (first | apply Kd.R_alloc | apply Kd.R_drewN | apply Kd.R_drew)); exact HO_0.out⟩, ⟨by repeat (first | (with_reducible first | exact HK.out | apply Kept.alloc | apply Kept.drewN | apply Kept.drew) | exact HK.out)⟩, ⟨by repeat (first | (with_reducible first | exact HB.out | apply below_alloc | apply pw_below_drewN | apply below_drew1) | exact HB.out)⟩⟩
                              case round =>
                                clear H'
                                try clear c1
                                try clear p1
                                try clear q1
                                try clear hx1
                                try clear c2
                                try clear p2
                                try clear q2
                                try clear hx2
                                try clear c3
                                try clear c4
                                try clear c4b0
                                try clear p4
                                try clear q4
                                try clear hx4
                                try clear hf4
                                try clear c5
                                try clear c6
                                try clear c6b0
                                try clear p6
                                try clear c7
                                try clear c7b0
                                try clear c8
                                try clear c8b0
                                try clear c10
                                try clear c10b0
                                try clear c11
                                try clear c11b0
                                try clear c13
                                try clear p18
                                try clear q18
                                try clear hx18
                                try clear c19
                                try clear c19b0
                                try clear c19b1
                                try clear p19
                                try clear q19
                                try clear hx19
                                try clear c20
                                try clear c20b0
                                try clear c22
                                try clear c22b0
                                try clear c23
                                try clear c23b0
                                try clear c24
                                try clear c24b0
                                try clear c25
                                try clear c25b0
                                try clear p26
                                try clear q26
                                try clear hx26
                                try clear hf26
                                try clear p27
                                try clear q27
                                try clear hx27
                                try clear hf27
                                try clear c33
                                try clear c33b0
                                try clear c34
                                try clear c34b0
                                try clear c35
                                try clear c35b0
                                try clear c36
                                try clear c36b0
                                try clear c38
                                try clear c38b0
                                try clear c39
                                try clear c39b0
                                try clear c41
                                try clear p42
                                try clear q42
                                try clear hx42
                                try clear hf42
                                try clear p43
                                try clear q43
                                try clear hx43
                                try clear hf43
                                try clear c49
                                try clear c49b0
                                try clear hx183_0
                                try clear hx184_0
                                try clear hx186_0
                                try clear hx187_0
                                try clear hx190_0
                                try clear hx191_0
                                try clear hx193_0
                                try clear hx194_0
                                try clear hx26_0
                                try clear hx27_0
                                try clear hx42_0
                                try clear hx43_0
                                try clear p1
                                try clear p18
                                try clear p183
                                try clear p184
                                try clear p186
                                try clear p187
                                try clear p19
                                try clear p190
                                try clear p191
                                try clear p193
                                try clear p194
                                try clear p2
                                try clear p26
                                try clear p27
                                try clear p4
                                try clear p42
                                try clear p43
                                try clear p6
                                try clear q1
                                try clear q18
                                try clear q183
                                try clear q184
                                try clear q186
                                try clear q187
                                try clear q19
                                try clear q190
                                try clear q191
                                try clear q193
                                try clear q194
                                try clear q2
                                try clear q26
                                try clear q27
                                try clear q4
                                try clear q42
                                try clear q43
                                obtain ⟨x0_4, x10_4, rfl, HA, HK4, HO_0, HK, HB⟩ := hrel
                                have hl0_4 := (Kd.R_reads' HO_0.out).1
                                rw [hl0_4] at HO_0
                                (try simp only [hl0_4])
                                cases gk with
                                | zero => exact absurd HA.out (by simp [slices_partialInsertionSortOrdered_uint32.l3])
                                | succ k4 =>
                                  have H := HA.out
                                  clear HA
                                  simp only [slices_partialInsertionSortOrdered_uint32.l3] at H
                                  by_cases c50 : x10_4 < a2
                                  · rw [if_pos c50] at H
                                    have c50b0 : decide (x10_4 < a2) = true := decide_eq_true c50
                                    clear c50
                                    by_cases c51 : 0 ≤ x10_4
                                    · rw [if_pos c51] at H
                                      have c51b0 : decide (0 ≤ x10_4) = true := decide_eq_true c51
                                      clear c51
                                      by_cases c52 : x10_4 < (x0_4.length : Int)
                                      · rw [if_pos c52] at H
                                        have c52b0 : decide (x10_4 < (x0_4.length : Int)) = true := decide_eq_true c52
                                        clear c52
                                        obtain ⟨ji53, hji53⟩ : ∃ j_ : Int, (wrap64 (x10_4 - 1)) = j_ := ⟨_, rfl⟩
                                        replace H : (if 0 ≤ (ji53) then (if (ji53) < (x0_4.length : Int) then ((cmp_Less_uint32.f (rd x0_4 x10_4) (rd x0_4 (ji53))).bind fun t199 => (if t199 = true then (slices_partialInsertionSortOrdered_uint32.l3 k4 ((x0_4.set (x10_4 : Int).toNat (rd x0_4 (ji53))).set ((ji53) : Int).toNat (rd x0_4 x10_4)) a1 a2 x7_4 x8_1 (wrap64 (x10_4 + 1))) else (slices_partialInsertionSortOrdered_uint32.l0 k4 x0_4 a1 a2 x7_4 (wrap64 (x8_1 + 1))))) else (none)) else (none)) = some (r1, r2) := by first | (rw [hji53] at H; exact H) | (simp only [hji53] at H ⊢; exact H)
                                        have hji53w : (IntKind.i64.wrap (x10_4 - 1)) = ji53 := (i64_w _).trans hji53
                                        by_cases c54 : 0 ≤ (ji53)
                                        · rw [if_pos c54] at H
                                          have c54b0 : decide (0 ≤ (ji53)) = true := decide_eq_true c54
                                          clear c54
                                          by_cases c55 : (ji53) < (x0_4.length : Int)
                                          · rw [if_pos c55] at H
                                            have c55b0 : decide ((ji53) < (x0_4.length : Int)) = true := decide_eq_true c55
                                            clear c55
                                            replace H := Option.bind_eq_some_iff.mp H
                                            obtain ⟨t199, A560, H⟩ := H
                                            replace H : (if t199 = true then (slices_partialInsertionSortOrdered_uint32.l3 k4 ((x0_4.set (x10_4 : Int).toNat (rd x0_4 (ji53))).set ((ji53) : Int).toNat (rd x0_4 x10_4)) a1 a2 x7_4 x8_1 (wrap64 (x10_4 + 1))) else (slices_partialInsertionSortOrdered_uint32.l0 k4 x0_4 a1 a2 x7_4 (wrap64 (x8_1 + 1)))) = some (r1, r2) := H
                                            have A56 := Aside0.mk A560
                                            clear A560
                                            by_cases c57 : t199 = true
                                            · subst c57
                                              have H1 : (slices_partialInsertionSortOrdered_uint32.l3 k4 ((x0_4.set (x10_4 : Int).toNat (rd x0_4 (ji53))).set ((ji53) : Int).toNat (rd x0_4 x10_4)) a1 a2 x7_4 x8_1 (wrap64 (x10_4 + 1))) = some (r1, r2) := by rw [if_pos rfl] at H; exact H
                                              clear H
                                              have H := H1
                                              clear H1
                                              obtain ⟨y202, hy202⟩ : ∃ y_ : List Int, y_ = (x0_4.set (x10_4 : Int).toNat (rd x0_4 (ji53))) := ⟨_, rfl⟩
                                              replace H : (slices_partialInsertionSortOrdered_uint32.l3 k4 (y202.set ((ji53) : Int).toNat (rd x0_4 x10_4)) a1 a2 x7_4 x8_1 (wrap64 (x10_4 + 1))) = some (r1, r2) := by first | (rw [hy202]; with_reducible exact H) | (have H2_ := (Option.bind_some _ _).symm.trans H; rw [hy202]; with_reducible exact H2_) | (have H2_ := (Option.bind_some _ _).symm.trans H; with_reducible exact H2_) | with_reducible exact H | (rw [hy202]; exact H) | exact H
                                              have Ny202 := Aside0.mk hy202
                                              clear hy202
                                              obtain ⟨y203, hy203⟩ : ∃ y_ : List Int, y_ = (y202.set ((ji53) : Int).toNat (rd x0_4 x10_4)) := ⟨_, rfl⟩
                                              replace H : (slices_partialInsertionSortOrdered_uint32.l3 k4 y203 a1 a2 x7_4 x8_1 (wrap64 (x10_4 + 1))) = some (r1, r2) := by first | (rw [hy203]; with_reducible exact H) | (have H2_ := (Option.bind_some _ _).symm.trans H; rw [hy203]; with_reducible exact H2_) | (have H2_ := (Option.bind_some _ _).symm.trans H; with_reducible exact H2_) | with_reducible exact H | (rw [hy203]; exact H) | exact H
                                              have Ny203 := Aside0.mk hy203
                                              clear hy203
                                              have H' := Aside0.mk H
                                              clear H
                                              try go_wp2
                                              have n0_ := Aside0.mk (Kd.R_drew HO_0.out)
                                              have n1_ := Aside0.mk (Kept.drew HK.out)
                                              have n2_ := Aside0.mk (below_drew1 HB.out)
                                              clear HO_0
                                              clear HK
                                              clear HB
                                              have HO_0 := n0_
                                              have HK := n1_
                                              have HB := n2_
                                              clear n0_ n1_ n2_
                                              have p197 : 0 ≤ (x10_4 : Int) := of_decide_eq_true (by first | (with_reducible assumption) | assumption)
                                              have q197 : x10_4 < (x0_4.length : Int) := of_decide_eq_true (by first | (with_reducible assumption) | assumption)
                                              obtain ⟨ad197, e197, hx197_0⟩ := Kd.at_int (Kd.R_reads' HO_0.out).2.2 x10_4 p197 q197
                                              obtain rfl : (⟨go26, 0, none⟩ : Addr) = ad197 := (by injection e197)
                                              (first | simp only [add_plain] at hx197_0 | simp only [add_at] at hx197_0 | simp only [Addr.add, Nat.zero_add] at hx197_0 | skip)
                                              replace p197 := eq_true p197
                                              replace q197 := eq_true q197
                                              have p198 : 0 ≤ ((ji53) : Int) := of_decide_eq_true (by first | (with_reducible assumption) | assumption)
                                              have q198 : (ji53) < (x0_4.length : Int) := of_decide_eq_true (by first | (with_reducible assumption) | assumption)
                                              obtain ⟨ad198, e198, hx198_0⟩ := Kd.at_int (Kd.R_reads' HO_0.out).2.2 (ji53) p198 q198
                                              obtain rfl : (⟨go26, 0, none⟩ : Addr) = ad198 := (by injection e198)
                                              (first | simp only [add_plain] at hx198_0 | simp only [add_at] at hx198_0 | simp only [Addr.add, Nat.zero_add] at hx198_0 | skip)
                                              replace p198 := eq_true p198
                                              replace q198 := eq_true q198
                                              refine start_ (n := 11) (S := fun w' => w'.cell? ⟨go26, (x10_4).toNat, none⟩ = some (.int .u32 (rd x0_4 x10_4)) ∧ w'.cell? ⟨go26, ((ji53)).toNat, none⟩ = some (.int .u32 (rd x0_4 (ji53)))) (ds := []) #[false, false, false, false, false, false, false, false, false, false, false] (by kernel_rfl) rfl rfl ⟨hx197_0, hx198_0⟩ (fun hHeld => ?_); refine with_tabW slices_partialInsertionSortOrdered_uint32.tab22 slices_partialInsertionSortOrdered_uint32.bits22 (fun HT_ HW_ => ?_)
                                              generalize wr.drew = w60 at HO_0 HK HB hx197_0 hx198_0 hHeld ⊢
                                              refine pure_ (i := 0) (N := some 106) (v := ?_) (a' := ?_) #[true, false, false, false, false, false, false, false, false, false, false] rfl rfl (any_of HT_.out (by kernel_rfl)) (fun _ _ _ h => h) (Or.inl ⟨by rfl, ?_⟩) ?_ ?_
                                              rotate_left
                                              · intro w'
                                                go_simp
                                                with_reducible rfl
                                              rotate_left
                                              · simp only [Act.put, List.setIfInBounds_toArray, List.set_cons_zero, List.set_cons_succ, i64_w, i32_w]
                                                rfl
                                              refine pure_ (i := 1) (N := some 107) (v := ?_) (a' := ?_) #[true, true, false, false, false, false, false, false, false, false, false] rfl rfl (any_of HT_.out (by kernel_rfl)) (fun _ _ _ h => h) (Or.inl ⟨by rfl, ?_⟩) ?_ ?_
                                              rotate_left
                                              · intro w'
                                                go_simp
                                                with_reducible rfl
                                              rotate_left
                                              · simp only [Act.put, List.setIfInBounds_toArray, List.set_cons_zero, List.set_cons_succ, i64_w, i32_w]
                                                rfl
                                              refine pure_ (i := 2) (N := some 108) (v := ?_) (a' := ?_) #[true, true, true, false, false, false, false, false, false, false, false] rfl rfl (any_of HT_.out (by kernel_rfl)) (fun _ _ _ h => h) (Or.inl ⟨by rfl, ?_⟩) ?_ ?_
                                              rotate_left
                                              · intro w'
                                                go_simp
                                                with_reducible rfl
                                              rotate_left
                                              · simp only [Act.put, List.setIfInBounds_toArray, List.set_cons_zero, List.set_cons_succ, i64_w, i32_w]
                                                rfl
                                              refine pure_ (i := 4) (N := some 110) (v := ?_) (a' := ?_) #[true, true, true, false, true, false, false, false, false, false, false] rfl rfl (any_of HT_.out (by kernel_rfl)) (fun _ _ _ h => h) (Or.inl ⟨by rfl, ?_⟩) ?_ ?_
                                              rotate_left
                                              · intro w'
                                                go_simp
                                                with_reducible rfl
                                              rotate_left
                                              · simp only [Act.put, List.setIfInBounds_toArray, List.set_cons_zero, List.set_cons_succ, i64_w, i32_w]
                                                rfl
                                              refine pure_ (i := 5) (N := some 111) (v := ?_) (a' := ?_) #[true, true, true, false, true, true, false, false, false, false, false] rfl rfl (any_of HT_.out (by kernel_rfl)) (fun _ _ _ h => h) (Or.inl ⟨by rfl, ?_⟩) ?_ ?_
                                              rotate_left
                                              · intro w'
                                                go_simp
                                                with_reducible rfl
                                              rotate_left
                                              · simp only [Act.put, List.setIfInBounds_toArray, List.set_cons_zero, List.set_cons_succ, i64_w, i32_w]
                                                rfl
                                              refine pure_ (i := 6) (N := some 112) (v := ?_) (a' := ?_) #[true, true, true, false, true, true, true, false, false, false, false] rfl rfl (any_of HT_.out (by kernel_rfl)) (fun _ _ _ h => h) (Or.inl ⟨by rfl, ?_⟩) ?_ ?_
                                              rotate_left
                                              · intro w'
                                                go_simp
                                                with_reducible rfl
                                              rotate_left
                                              · simp only [Act.put, List.setIfInBounds_toArray, List.set_cons_zero, List.set_cons_succ, i64_w, i32_w]
                                                rfl
                                              refine pure_ (i := 7) (N := some 113) (v := ?_) (a' := ?_) #[true, true, true, false, true, true, true, true, false, false, false] rfl rfl (any_of HT_.out (by kernel_rfl)) (fun _ _ _ h => h) (Or.inl ⟨by rfl, ?_⟩) ?_ ?_
                                              rotate_left
                                              · intro w'
                                                go_simp
                                                with_reducible rfl
                                              rotate_left
                                              · simp only [Act.put, List.setIfInBounds_toArray, List.set_cons_zero, List.set_cons_succ, i64_w, i32_w]
                                                rfl
                                              refine take_ (i := 3) (N := some 109) (v := ?_) (a' := ?_) #[true, true, true, true, true, true, true, true, false, false, false] rfl rfl (take_ofW HT_.out HW_.out (by kernel_rfl)) (fun _ _ _ h => h) (Or.inl ⟨by rfl, ?_⟩) hHeld ?_ ?_
                                              rotate_left
                                              · rintro w' ⟨s0, s1⟩
                                                go_simp
                                                with_reducible rfl
                                              rotate_left
                                              · simp only [Act.put, List.setIfInBounds_toArray, List.set_cons_zero, List.set_cons_succ, i64_w, i32_w]
                                                rfl
                                              refine take_ (i := 8) (N := some 114) (v := ?_) (a' := ?_) #[true, true, true, true, true, true, true, true, true, false, false] rfl rfl (take_ofW HT_.out HW_.out (by kernel_rfl)) (fun _ _ _ h => h) (Or.inl ⟨by rfl, ?_⟩) hHeld ?_ ?_
                                              rotate_left
                                              · rintro w' ⟨s0, s1⟩
                                                go_simp
                                                with_reducible rfl
                                              rotate_left
                                              · simp only [Act.put, List.setIfInBounds_toArray, List.set_cons_zero, List.set_cons_succ, i64_w, i32_w]
                                                rfl
                                              refine one_ (i := 9) (N := some 115) #[true, true, true, true, true, true, true, true, true, true, false] rfl rfl (one_of HT_.out (by kernel_rfl)) (by decide) (fun K hK => ?_)
                                              refine goes_ Tryd.func57 (by kernel_rfl) rfl #[.int .u32 (rd x0_4 x10_4), .int .u32 (rd x0_4 (ji53))] (by rfl) rfl rfl (by (try simp only [List.map_toArray, List.map_cons, List.map_nil]); first | done | (simp only [hji53]; rfl) | rfl | (simp only [List.length_drop, List.length_take]; rfl)) ?_
                                              with_reducible refine (cmp_Less_uint32.calls (rd x0_4 x10_4) (rd x0_4 (ji53)) true _ A56.out).mono ?_
                                              rintro e w' ⟨rfl, ⟨nd, rfl⟩⟩
                                              refine ⟨_, rfl, ?_⟩
                                              refine hK.out _ _ ⟨hHeld.1, hHeld.2⟩ (fun hHeld => ?_)
                                              clear hK K
                                              refine norm_ (a' := ?_) ?_ ?_
                                              rotate_left
                                              · show Act.put _ (some 115) _ = _
                                                simp only [Act.put, List.setIfInBounds_toArray, List.set_cons_zero, List.set_cons_succ, i64_w, i32_w]
                                                rfl
                                              refine pure_ (i := 10) (N := some 116) (v := ?_) (a' := ?_) #[true, true, true, true, true, true, true, true, true, true, true] rfl rfl (any_of HT_.out (by kernel_rfl)) (fun _ _ _ h => h) (Or.inl ⟨by rfl, ?_⟩) ?_ ?_
                                              rotate_left
                                              · intro w'
                                                go_simp
                                                with_reducible rfl
                                              rotate_left
                                              · simp only [Act.put, List.setIfInBounds_toArray, List.set_cons_zero, List.set_cons_succ, i64_w, i32_w]
                                                rfl
                                              refine done_ (done_of HT_.out (by kernel_rfl)) ?_
                                              try go_wp2
                                              (try (rw [drewN_self w60]; generalize hq_ : World.drewN w60 _ = w60; have n0_ : Aside0 (Kd.R (Kd.int .u32) 33 w60 w0.heap.size (fun k_ => (P0_ k_ ∨ w.heap.size ≤ k_)) (.slice (some ⟨go26, 0, none⟩) x0_4.length co30) x0_4) := ⟨by rw [← hq_]; exact (by (with_reducible repeat (first | apply Kd.R_alloc | apply Kd.R_drewN | apply Kd.R_drew)); exact HO_0.out)⟩; have n1_ : Aside0 (Kept w w60 (fun k_ => P0_ k_)) := ⟨by rw [← hq_]; exact (by repeat (first | (with_reducible first | exact HK.out | apply Kept.alloc | apply Kept.drewN | apply Kept.drew) | exact HK.out))⟩; have n2_ : Aside0 (Below w0.heap.size w0 w60) := ⟨by rw [← hq_]; exact (by repeat (first | (with_reducible first | exact HB.out | apply below_alloc | apply pw_below_drewN | apply below_drew1) | exact HB.out))⟩; clear HO_0 HK HB hq_; have HO_0 := n0_; have HK := n1_; have HB := n2_; clear n0_ n1_ n2_))
                                              have n0_ := Aside0.mk (Kd.R_drew HO_0.out)
                                              have n1_ := Aside0.mk (Kept.drew HK.out)
                                              have n2_ := Aside0.mk (below_drew1 HB.out)
                                              clear HO_0
                                              clear HK
                                              clear HB
                                              have HO_0 := n0_
                                              have HK := n1_
                                              have HB := n2_
                                              clear n0_ n1_ n2_
                                              have p200 : 0 ≤ ((ji53) : Int) := of_decide_eq_true (by first | (with_reducible assumption) | assumption)
                                              have q200 : (ji53) < (x0_4.length : Int) := of_decide_eq_true (by first | (with_reducible assumption) | assumption)
                                              obtain ⟨ad200, e200, hx200_0⟩ := Kd.at_int (Kd.R_reads' HO_0.out).2.2 (ji53) p200 q200
                                              obtain rfl : (⟨go26, 0, none⟩ : Addr) = ad200 := (by injection e200)
                                              (first | simp only [add_plain] at hx200_0 | simp only [add_at] at hx200_0 | simp only [Addr.add, Nat.zero_add] at hx200_0 | skip)
                                              replace p200 := eq_true p200
                                              replace q200 := eq_true q200
                                              have p201 : 0 ≤ (x10_4 : Int) := of_decide_eq_true (by first | (with_reducible assumption) | assumption)
                                              have q201 : x10_4 < (x0_4.length : Int) := of_decide_eq_true (by first | (with_reducible assumption) | assumption)
                                              obtain ⟨ad201, e201, hx201_0⟩ := Kd.at_int (Kd.R_reads' HO_0.out).2.2 x10_4 p201 q201
                                              obtain rfl : (⟨go26, 0, none⟩ : Addr) = ad201 := (by injection e201)
                                              (first | simp only [add_plain] at hx201_0 | simp only [add_at] at hx201_0 | simp only [Addr.add, Nat.zero_add] at hx201_0 | skip)
                                              replace p201 := eq_true p201
                                              replace q201 := eq_true q201
                                              have p58 : 0 ≤ (x10_4 : Int) := of_decide_eq_true (by first | (with_reducible assumption) | assumption)
                                              have q58 : (x10_4 : Int) < ((x0_4.length : Int) : Int) := of_decide_eq_true (by first | (with_reducible assumption) | assumption)
                                              obtain ⟨hx58_0, hf58_0⟩ := Kd.R_celln 0 HO_0.out (x10_4 : Int) p58 q58
                                              replace p58 := eq_true p58
                                              replace q58 := eq_true q58
                                              have HP62 := Kd.R_putn HO_0.out (x10_4 : Int) (rd x0_4 (ji53))
                                              rw [← Ny202.out] at HP62
                                              have HQ62 := Aside0.mk HP62
                                              clear HP62
                                              have p59 : 0 ≤ ((ji53) : Int) := of_decide_eq_true (by first | (with_reducible assumption) | assumption)
                                              have q59 : ((ji53) : Int) < ((x0_4.length : Int) : Int) := of_decide_eq_true (by first | (with_reducible assumption) | assumption)
                                              obtain ⟨hx59_0, hf59_0⟩ := Kd.R_celln 0 HQ62.out ((ji53) : Int) p59 q59
                                              replace p59 := eq_true p59
                                              replace q59 := eq_true q59
                                              have HP63 := Kd.R_putn HQ62.out ((ji53) : Int) (rd x0_4 x10_4)
                                              rw [← Ny203.out] at HP63
                                              have HQ63 := Aside0.mk HP63
                                              clear HP63
                                              refine start_ (n := 18) (S := fun w' => w'.cell? ⟨go26, ((ji53)).toNat, none⟩ = some (.int .u32 (rd x0_4 (ji53))) ∧ w'.cell? ⟨go26, (x10_4).toNat, none⟩ = some (.int .u32 (rd x0_4 x10_4))) (ds := [15, 17]) #[false, false, false, false, false, false, false, false, false, false, false, false, false, false, false, false, false, false] (by kernel_rfl) rfl rfl ⟨hx200_0, hx201_0⟩ (fun hHeld => ?_); refine with_tabW slices_partialInsertionSortOrdered_uint32.tab23 slices_partialInsertionSortOrdered_uint32.bits23 (fun HT_ HW_ => ?_)
                                              generalize w60.drew = w61 at HO_0 HK HB HQ62 HQ63 hf58_0 hf59_0 hx200_0 hx201_0 hx58_0 hx59_0 hHeld ⊢
                                              refine pure_ (i := 0) (N := some 117) (v := ?_) (a' := ?_) #[true, false, false, false, false, false, false, false, false, false, false, false, false, false, false, false, false, false] rfl rfl (any_of HT_.out (by kernel_rfl)) (fun _ _ _ h => h) (Or.inl ⟨by rfl, ?_⟩) ?_ ?_
                                              rotate_left
                                              · intro w'
                                                go_simp
                                                with_reducible rfl
                                              rotate_left
                                              · simp only [Act.put, List.setIfInBounds_toArray, List.set_cons_zero, List.set_cons_succ, i64_w, i32_w]
                                                rfl
                                              refine pure_ (i := 1) (N := some 118) (v := ?_) (a' := ?_) #[true, true, false, false, false, false, false, false, false, false, false, false, false, false, false, false, false, false] rfl rfl (any_of HT_.out (by kernel_rfl)) (fun _ _ _ h => h) (Or.inl ⟨by rfl, ?_⟩) ?_ ?_
                                              rotate_left
                                              · intro w'
                                                go_simp
                                                with_reducible rfl
                                              rotate_left
                                              · simp only [Act.put, List.setIfInBounds_toArray, List.set_cons_zero, List.set_cons_succ, i64_w, i32_w]
                                                rfl
                                              refine pure_ (i := 2) (N := some 119) (v := ?_) (a' := ?_) #[true, true, true, false, false, false, false, false, false, false, false, false, false, false, false, false, false, false] rfl rfl (any_of HT_.out (by kernel_rfl)) (fun _ _ _ h => h) (Or.inl ⟨by rfl, ?_⟩) ?_ ?_
                                              rotate_left
                                              · intro w'
                                                go_simp
                                                with_reducible rfl
                                              rotate_left
                                              · simp only [Act.put, List.setIfInBounds_toArray, List.set_cons_zero, List.set_cons_succ, i64_w, i32_w]
                                                rfl
                                              refine pure_ (i := 3) (N := some 120) (v := ?_) (a' := ?_) #[true, true, true, true, false, false, false, false, false, false, false, false, false, false, false, false, false, false] rfl rfl (any_of HT_.out (by kernel_rfl)) (fun _ _ _ h => h) (Or.inl ⟨by rfl, ?_⟩) ?_ ?_
                                              rotate_left
                                              · intro w'
                                                go_simp
                                                with_reducible rfl
                                              rotate_left
                                              · simp only [Act.put, List.setIfInBounds_toArray, List.set_cons_zero, List.set_cons_succ, i64_w, i32_w]
                                                rfl
                                              refine pure_ (i := 4) (N := some 121) (v := ?_) (a' := ?_) #[true, true, true, true, true, false, false, false, false, false, false, false, false, false, false, false, false, false] rfl rfl (any_of HT_.out (by kernel_rfl)) (fun _ _ _ h => h) (Or.inl ⟨by rfl, ?_⟩) ?_ ?_
                                              rotate_left
                                              · intro w'
                                                go_simp
                                                with_reducible rfl
                                              rotate_left
                                              · simp only [Act.put, List.setIfInBounds_toArray, List.set_cons_zero, List.set_cons_succ, i64_w, i32_w]
                                                rfl
                                              refine pure_ (i := 5) (N := some 122) (v := ?_) (a' := ?_) #[true, true, true, true, true, true, false, false, false, false, false, false, false, false, false, false, false, false] rfl rfl (any_of HT_.out (by kernel_rfl)) (fun _ _ _ h => h) (Or.inl ⟨by rfl, ?_⟩) ?_ ?_
                                              rotate_left
                                              · intro w'
                                                go_simp
                                                with_reducible rfl
                                              rotate_left
                                              · simp only [Act.put, List.setIfInBounds_toArray, List.set_cons_zero, List.set_cons_succ, i64_w, i32_w]
                                                rfl
                                              refine pure_ (i := 6) (N := some 123) (v := ?_) (a' := ?_) #[true, true, true, true, true, true, true, false, false, false, false, false, false, false, false, false, false, false] rfl rfl (any_of HT_.out (by kernel_rfl)) (fun _ _ _ h => h) (Or.inl ⟨by rfl, ?_⟩) ?_ ?_
                                              rotate_left
                                              · intro w'
                                                go_simp
                                                with_reducible rfl
                                              rotate_left
                                              · simp only [Act.put, List.setIfInBounds_toArray, List.set_cons_zero, List.set_cons_succ, i64_w, i32_w]
                                                rfl
                                              refine pure_ (i := 7) (N := some 124) (v := ?_) (a' := ?_) #[true, true, true, true, true, true, true, true, false, false, false, false, false, false, false, false, false, false] rfl rfl (any_of HT_.out (by kernel_rfl)) (fun _ _ _ h => h) (Or.inl ⟨by rfl, ?_⟩) ?_ ?_
                                              rotate_left
                                              · intro w'
                                                go_simp
                                                with_reducible rfl
                                              rotate_left
                                              · simp only [Act.put, List.setIfInBounds_toArray, List.set_cons_zero, List.set_cons_succ, i64_w, i32_w]
                                                rfl
                                              refine pure_ (i := 8) (N := some 125) (v := ?_) (a' := ?_) #[true, true, true, true, true, true, true, true, true, false, false, false, false, false, false, false, false, false] rfl rfl (any_of HT_.out (by kernel_rfl)) (fun _ _ _ h => h) (Or.inl ⟨by rfl, ?_⟩) ?_ ?_
                                              rotate_left
                                              · intro w'
                                                go_simp
                                                with_reducible rfl
                                              rotate_left
                                              · simp only [Act.put, List.setIfInBounds_toArray, List.set_cons_zero, List.set_cons_succ, i64_w, i32_w]
                                                rfl
                                              refine pure_ (i := 10) (N := some 127) (v := ?_) (a' := ?_) #[true, true, true, true, true, true, true, true, true, false, true, false, false, false, false, false, false, false] rfl rfl (any_of HT_.out (by kernel_rfl)) (fun _ _ _ h => h) (Or.inl ⟨by rfl, ?_⟩) ?_ ?_
                                              rotate_left
                                              · intro w'
                                                go_simp
                                                with_reducible rfl
                                              rotate_left
                                              · simp only [Act.put, List.setIfInBounds_toArray, List.set_cons_zero, List.set_cons_succ, i64_w, i32_w]
                                                rfl
                                              refine pure_ (i := 11) (N := some 128) (v := ?_) (a' := ?_) #[true, true, true, true, true, true, true, true, true, false, true, true, false, false, false, false, false, false] rfl rfl (any_of HT_.out (by kernel_rfl)) (fun _ _ _ h => h) (Or.inl ⟨by rfl, ?_⟩) ?_ ?_
                                              rotate_left
                                              · intro w'
                                                go_simp
                                                with_reducible rfl
                                              rotate_left
                                              · simp only [Act.put, List.setIfInBounds_toArray, List.set_cons_zero, List.set_cons_succ, i64_w, i32_w]
                                                rfl
                                              refine pure_ (i := 12) (N := some 129) (v := ?_) (a' := ?_) #[true, true, true, true, true, true, true, true, true, false, true, true, true, false, false, false, false, false] rfl rfl (any_of HT_.out (by kernel_rfl)) (fun _ _ _ h => h) (Or.inl ⟨by rfl, ?_⟩) ?_ ?_
                                              rotate_left
                                              · intro w'
                                                go_simp
                                                with_reducible rfl
                                              rotate_left
                                              · simp only [Act.put, List.setIfInBounds_toArray, List.set_cons_zero, List.set_cons_succ, i64_w, i32_w]
                                                rfl
                                              refine take_ (i := 9) (N := some 126) (v := ?_) (a' := ?_) #[true, true, true, true, true, true, true, true, true, true, true, true, true, false, false, false, false, false] rfl rfl (take_ofW HT_.out HW_.out (by kernel_rfl)) (fun _ _ _ h => h) (Or.inl ⟨by rfl, ?_⟩) hHeld ?_ ?_
                                              rotate_left
                                              · rintro w' ⟨s0, s1⟩
                                                go_simp
                                                with_reducible rfl
                                              rotate_left
                                              · simp only [Act.put, List.setIfInBounds_toArray, List.set_cons_zero, List.set_cons_succ, i64_w, i32_w]
                                                rfl
                                              refine take_ (i := 13) (N := some 130) (v := ?_) (a' := ?_) #[true, true, true, true, true, true, true, true, true, true, true, true, true, true, false, false, false, false] rfl rfl (take_ofW HT_.out HW_.out (by kernel_rfl)) (fun _ _ _ h => h) (Or.inl ⟨by rfl, ?_⟩) hHeld ?_ ?_
                                              rotate_left
                                              · rintro w' ⟨s0, s1⟩
                                                go_simp
                                                with_reducible rfl
                                              rotate_left
                                              · simp only [Act.put, List.setIfInBounds_toArray, List.set_cons_zero, List.set_cons_succ, i64_w, i32_w]
                                                rfl
                                              refine pure_ (i := 14) (N := some 131) (v := ?_) (a' := ?_) #[true, true, true, true, true, true, true, true, true, true, true, true, true, true, true, false, false, false] rfl rfl (any_of HT_.out (by kernel_rfl)) (fun _ _ _ h => h) (Or.inl ⟨by rfl, ?_⟩) ?_ ?_
                                              rotate_left
                                              · intro w'
                                                go_simp
                                                with_reducible rfl
                                              rotate_left
                                              · simp only [Act.put, List.setIfInBounds_toArray, List.set_cons_zero, List.set_cons_succ, i64_w, i32_w]
                                                rfl
                                              refine last_ (i := 15) (N := none) #[true, true, true, true, true, true, true, true, true, true, true, true, true, true, true, true, false, false] rfl rfl (one_of HT_.out (by kernel_rfl)) (by decide) (fun K hK => ?_)
                                              refine skip_ (w1 := ?_) (by rfl) rfl ?_ ?_
                                              rotate_left
                                              · go_simp
                                                rfl
                                              refine hK.out _ _ ?_
                                              clear hK K
                                              refine pure_ (i := 16) (N := some 132) (v := ?_) (a' := ?_) #[true, true, true, true, true, true, true, true, true, true, true, true, true, true, true, true, true, false] rfl rfl (any_of HT_.out (by kernel_rfl)) (fun _ _ _ h => h) (Or.inl ⟨by rfl, ?_⟩) ?_ ?_
                                              rotate_left
                                              · intro w'
                                                go_simp
                                                with_reducible rfl
                                              rotate_left
                                              · simp only [Act.put, List.setIfInBounds_toArray, List.set_cons_zero, List.set_cons_succ, i64_w, i32_w]
                                                rfl
                                              refine last_ (i := 17) (N := none) #[true, true, true, true, true, true, true, true, true, true, true, true, true, true, true, true, true, true] rfl rfl (one_of HT_.out (by kernel_rfl)) (by decide) (fun K hK => ?_)
                                              refine skip_ (w1 := ?_) (by rfl) rfl ?_ ?_
                                              rotate_left
                                              · go_simp
                                                rfl
                                              refine hK.out _ _ ?_
                                              clear hK K
                                              refine done_ (done_of HT_.out (by kernel_rfl)) ?_
                                              try go_wp2
                                              (try simp only [← hl0_4])
                                              go_roundg k4
                                              case measure => have := HK1.out; have := HJ4.out; have := HJ27.out; have := HK4.out; omega
                                              case rel => exact ⟨(y203), (wrap64 (x10_4 + 1)), (by first | rfl | (simp; done) | (simp [*]; done)), H', ⟨by have := HK1.out; have := HJ4.out; have := HJ27.out; have := HK4.out; omega⟩, ⟨by (try simp only [hl0_27]); (try simp only [hl0_4]); (with_reducible repeat (first | apply Kd.R_alloc | apply Kd.R_drewN | apply Kd.R_drew)); exact HQ63.out⟩, ⟨by repeat (first | (with_reducible first | exact HK.out | apply Kept.alloc | apply Kept.drewN | apply Kept.drew | refine Kept.setCell ?_ HMgo26.out _ | refine Kept.setCell ?_ HMgo26.out _) | exact HK.out)⟩, ⟨by repeat (first | (with_reducible first | exact HB.out | apply below_alloc | apply pw_below_drewN | apply below_drew1 | refine below_set ?_ GB26.out | refine below_set ?_ GB26.out) | exact HB.out)⟩⟩
                                            · replace c57 := Bool.eq_false_iff.mpr c57
                                              subst c57
                                              have H1 : (slices_partialInsertionSortOrdered_uint32.l0 k4 x0_4 a1 a2 x7_4 (wrap64 (x8_1 + 1))) = some (r1, r2) := by rw [if_neg (show ¬ (false = true) by decide)] at H; exact H
                                              clear H
                                              have H := H1
                                              clear H1
                                              have H' := Aside0.mk H
                                              clear H
                                              try go_wp2
                                              have n0_ := Aside0.mk (Kd.R_drew HO_0.out)
                                              have n1_ := Aside0.mk (Kept.drew HK.out)
                                              have n2_ := Aside0.mk (below_drew1 HB.out)
                                              clear HO_0
                                              clear HK
                                              clear HB
                                              have HO_0 := n0_
                                              have HK := n1_
                                              have HB := n2_
                                              clear n0_ n1_ n2_
                                              have p197 : 0 ≤ (x10_4 : Int) := of_decide_eq_true (by first | (with_reducible assumption) | assumption)
                                              have q197 : x10_4 < (x0_4.length : Int) := of_decide_eq_true (by first | (with_reducible assumption) | assumption)
                                              obtain ⟨ad197, e197, hx197_0⟩ := Kd.at_int (Kd.R_reads' HO_0.out).2.2 x10_4 p197 q197
                                              obtain rfl : (⟨go26, 0, none⟩ : Addr) = ad197 := (by injection e197)
                                              (first | simp only [add_plain] at hx197_0 | simp only [add_at] at hx197_0 | simp only [Addr.add, Nat.zero_add] at hx197_0 | skip)
                                              replace p197 := eq_true p197
                                              replace q197 := eq_true q197
                                              have p198 : 0 ≤ ((ji53) : Int) := of_decide_eq_true (by first | (with_reducible assumption) | assumption)
                                              have q198 : (ji53) < (x0_4.length : Int) := of_decide_eq_true (by first | (with_reducible assumption) | assumption)
                                              obtain ⟨ad198, e198, hx198_0⟩ := Kd.at_int (Kd.R_reads' HO_0.out).2.2 (ji53) p198 q198
                                              obtain rfl : (⟨go26, 0, none⟩ : Addr) = ad198 := (by injection e198)
                                              (first | simp only [add_plain] at hx198_0 | simp only [add_at] at hx198_0 | simp only [Addr.add, Nat.zero_add] at hx198_0 | skip)
                                              replace p198 := eq_true p198
                                              replace q198 := eq_true q198
                                              refine start_ (n := 11) (S := fun w' => w'.cell? ⟨go26, (x10_4).toNat, none⟩ = some (.int .u32 (rd x0_4 x10_4)) ∧ w'.cell? ⟨go26, ((ji53)).toNat, none⟩ = some (.int .u32 (rd x0_4 (ji53)))) (ds := []) #[false, false, false, false, false, false, false, false, false, false, false] (by kernel_rfl) rfl rfl ⟨hx197_0, hx198_0⟩ (fun hHeld => ?_); refine with_tabW slices_partialInsertionSortOrdered_uint32.tab22 slices_partialInsertionSortOrdered_uint32.bits22 (fun HT_ HW_ => ?_)
                                              generalize wr.drew = w64 at HO_0 HK HB hx197_0 hx198_0 hHeld ⊢
                                              refine pure_ (i := 0) (N := some 106) (v := ?_) (a' := ?_) #[true, false, false, false, false, false, false, false, false, false, false] rfl rfl (any_of HT_.out (by kernel_rfl)) (fun _ _ _ h => h) (Or.inl ⟨by rfl, ?_⟩) ?_ ?_
                                              rotate_left
                                              · intro w'
                                                go_simp
                                                with_reducible rfl
                                              rotate_left
                                              · simp only [Act.put, List.setIfInBounds_toArray, List.set_cons_zero, List.set_cons_succ, i64_w, i32_w]
                                                rfl
                                              refine pure_ (i := 1) (N := some 107) (v := ?_) (a' := ?_) #[true, true, false, false, false, false, false, false, false, false, false] rfl rfl (any_of HT_.out (by kernel_rfl)) (fun _ _ _ h => h) (Or.inl ⟨by rfl, ?_⟩) ?_ ?_
                                              rotate_left
                                              · intro w'
                                                go_simp
                                                with_reducible rfl
                                              rotate_left
                                              · simp only [Act.put, List.setIfInBounds_toArray, List.set_cons_zero, List.set_cons_succ, i64_w, i32_w]
                                                rfl
                                              refine pure_ (i := 2) (N := some 108) (v := ?_) (a' := ?_) #[true, true, true, false, false, false, false, false, false, false, false] rfl rfl (any_of HT_.out (by kernel_rfl)) (fun _ _ _ h => h) (Or.inl ⟨by rfl, ?_⟩) ?_ ?_
                                              rotate_left
                                              · intro w'
                                                go_simp
                                                with_reducible rfl
                                              rotate_left
                                              · simp only [Act.put, List.setIfInBounds_toArray, List.set_cons_zero, List.set_cons_succ, i64_w, i32_w]
                                                rfl
                                              refine pure_ (i := 4) (N := some 110) (v := ?_) (a' := ?_) #[true, true, true, false, true, false, false, false, false, false, false] rfl rfl (any_of HT_.out (by kernel_rfl)) (fun _ _ _ h => h) (Or.inl ⟨by rfl, ?_⟩) ?_ ?_
                                              rotate_left
                                              · intro w'
                                                go_simp
                                                with_reducible rfl
                                              rotate_left
                                              · simp only [Act.put, List.setIfInBounds_toArray, List.set_cons_zero, List.set_cons_succ, i64_w, i32_w]
                                                rfl
                                              refine pure_ (i := 5) (N := some 111) (v := ?_) (a' := ?_) #[true, true, true, false, true, true, false, false, false, false, false] rfl rfl (any_of HT_.out (by kernel_rfl)) (fun _ _ _ h => h) (Or.inl ⟨by rfl, ?_⟩) ?_ ?_
                                              rotate_left
                                              · intro w'
                                                go_simp
                                                with_reducible rfl
                                              rotate_left
                                              · simp only [Act.put, List.setIfInBounds_toArray, List.set_cons_zero, List.set_cons_succ, i64_w, i32_w]
                                                rfl
                                              refine pure_ (i := 6) (N := some 112) (v := ?_) (a' := ?_) #[true, true, true, false, true, true, true, false, false, false, false] rfl rfl (any_of HT_.out (by kernel_rfl)) (fun _ _ _ h => h) (Or.inl ⟨by rfl, ?_⟩) ?_ ?_
                                              rotate_left
                                              · intro w'
                                                go_simp
                                                with_reducible rfl
                                              rotate_left
                                              · simp only [Act.put, List.setIfInBounds_toArray, List.set_cons_zero, List.set_cons_succ, i64_w, i32_w]
                                                rfl
                                              refine pure_ (i := 7) (N := some 113) (v := ?_) (a' := ?_) #[true, true, true, false, true, true, true, true, false, false, false] rfl rfl (any_of HT_.out (by kernel_rfl)) (fun _ _ _ h => h) (Or.inl ⟨by rfl, ?_⟩) ?_ ?_
                                              rotate_left
                                              · intro w'
                                                go_simp
                                                with_reducible rfl
                                              rotate_left
                                              · simp only [Act.put, List.setIfInBounds_toArray, List.set_cons_zero, List.set_cons_succ, i64_w, i32_w]
                                                rfl
                                              refine take_ (i := 3) (N := some 109) (v := ?_) (a' := ?_) #[true, true, true, true, true, true, true, true, false, false, false] rfl rfl (take_ofW HT_.out HW_.out (by kernel_rfl)) (fun _ _ _ h => h) (Or.inl ⟨by rfl, ?_⟩) hHeld ?_ ?_
                                              rotate_left
                                              · rintro w' ⟨s0, s1⟩
                                                go_simp
                                                with_reducible rfl
                                              rotate_left
                                              · simp only [Act.put, List.setIfInBounds_toArray, List.set_cons_zero, List.set_cons_succ, i64_w, i32_w]
                                                rfl
                                              refine take_ (i := 8) (N := some 114) (v := ?_) (a' := ?_) #[true, true, true, true, true, true, true, true, true, false, false] rfl rfl (take_ofW HT_.out HW_.out (by kernel_rfl)) (fun _ _ _ h => h) (Or.inl ⟨by rfl, ?_⟩) hHeld ?_ ?_
                                              rotate_left
                                              · rintro w' ⟨s0, s1⟩
                                                go_simp
                                                with_reducible rfl
                                              rotate_left
                                              · simp only [Act.put, List.setIfInBounds_toArray, List.set_cons_zero, List.set_cons_succ, i64_w, i32_w]
                                                rfl
                                              refine one_ (i := 9) (N := some 115) #[true, true, true, true, true, true, true, true, true, true, false] rfl rfl (one_of HT_.out (by kernel_rfl)) (by decide) (fun K hK => ?_)
                                              refine goes_ Tryd.func57 (by kernel_rfl) rfl #[.int .u32 (rd x0_4 x10_4), .int .u32 (rd x0_4 (ji53))] (by rfl) rfl rfl (by (try simp only [List.map_toArray, List.map_cons, List.map_nil]); first | done | (simp only [hji53]; rfl) | rfl | (simp only [List.length_drop, List.length_take]; rfl)) ?_
                                              with_reducible refine (cmp_Less_uint32.calls (rd x0_4 x10_4) (rd x0_4 (ji53)) false _ A56.out).mono ?_
                                              rintro e w' ⟨rfl, ⟨nd, rfl⟩⟩
                                              refine ⟨_, rfl, ?_⟩
                                              refine hK.out _ _ ⟨hHeld.1, hHeld.2⟩ (fun hHeld => ?_)
                                              clear hK K
                                              refine norm_ (a' := ?_) ?_ ?_
                                              rotate_left
                                              · show Act.put _ (some 115) _ = _
                                                simp only [Act.put, List.setIfInBounds_toArray, List.set_cons_zero, List.set_cons_succ, i64_w, i32_w]
                                                rfl
                                              refine pure_ (i := 10) (N := some 116) (v := ?_) (a' := ?_) #[true, true, true, true, true, true, true, true, true, true, true] rfl rfl (any_of HT_.out (by kernel_rfl)) (fun _ _ _ h => h) (Or.inl ⟨by rfl, ?_⟩) ?_ ?_
                                              rotate_left
                                              · intro w'
                                                go_simp
                                                with_reducible rfl
                                              rotate_left
                                              · simp only [Act.put, List.setIfInBounds_toArray, List.set_cons_zero, List.set_cons_succ, i64_w, i32_w]
                                                rfl
                                              refine done_ (done_of HT_.out (by kernel_rfl)) ?_
                                              try go_wp2
                                              (try simp only [← hl0_27, ← hl0_4])
                                              go_roundg k4
                                              case measure => have := HK1.out; have := HJ4.out; have := HJ27.out; have := HK4.out; omega
                                              case rel => exact ⟨(x0_4), (x7_4), (wrap64 (x8_1 + 1)), (by first | rfl | (simp; done) | (simp [*]; done)), (by first | rfl | (simp; done) | (simp [*]; done)), H', ⟨by have := HK1.out; have := HJ4.out; have := HJ27.out; have := HK4.out; omega⟩, ⟨by (try simp only [hl0_27]); (try simp only [hl0_4]); (with_reducible repeat (first | apply Kd.R_alloc | apply Kd.R_drewN | apply Kd.R_drew)); exact HO_0.out⟩, ⟨by repeat (first | (with_reducible first | exact HK.out | apply Kept.alloc | apply Kept.drewN | apply Kept.drew) | exact HK.out)⟩, ⟨by repeat (first | (with_reducible first | exact HB.out | apply below_alloc | apply pw_below_drewN | apply below_drew1) | exact HB.out)⟩⟩
                                          · rw [if_neg c55] at H
                                            exact absurd H (by simp)
                                        · rw [if_neg c54] at H
                                          exact absurd H (by simp)
                                      · rw [if_neg c52] at H
                                        exact absurd H (by simp)
                                    · rw [if_neg c51] at H
                                      exact absurd H (by simp)
                                  · rw [if_neg c50] at H
                                    have c50b0 : decide (x10_4 < a2) = false := decide_eq_false c50
                                    clear c50
                                    have H' := Aside0.mk H
                                    clear H
                                    go_wp2
                                    (try simp only [← hl0_27, ← hl0_4])
                                    go_roundg k4
                                    case measure => have := HK1.out; have := HJ4.out; have := HJ27.out; have := HK4.out; omega
                                    case rel => exact ⟨(x0_4), (x7_4), (wrap64 (x8_1 + 1)), (by first | rfl | (simp; done) | (simp [*]; done)), (by first | rfl | (simp; done) | (simp [*]; done)), H', ⟨by have := HK1.out; have := HJ4.out; have := HJ27.out; have := HK4.out; omega⟩, ⟨by (try simp only [hl0_27]); (try simp only [hl0_4]); (with_reducible repeat (first | apply Kd.R_alloc | apply Kd.R_drewN | apply Kd.R_drew)); exact HO_0.out⟩, ⟨by repeat (first | (with_reducible first | exact HK.out | apply Kept.alloc | apply Kept.drewN | apply Kept.drew) | exact HK.out)⟩, ⟨by repeat (first | (with_reducible first | exact HB.out | apply below_alloc | apply pw_below_drewN | apply below_drew1) | exact HB.out)⟩⟩
                            · rw [if_neg c49] at H
                              have c49b0 : decide (2 ≤ (wrap64 (a2 - x7_4))) = false := decide_eq_false c49
                              clear c49
                              have H' := Aside0.mk H
                              clear H
                              go_wp2
                              (try simp only [← hl0_27])
                              go_roundg kj27
                              case measure => have := HK1.out; have := HJ4.out; have := HJ27.out; omega
                              case rel => exact ⟨(x0_27), (x7_4), (wrap64 (x8_1 + 1)), (by first | rfl | (simp; done) | (simp [*]; done)), (by first | rfl | (simp; done) | (simp [*]; done)), H', ⟨by have := HK1.out; have := HJ4.out; have := HJ27.out; omega⟩, ⟨by (try simp only [hl0_27]); (with_reducible repeat (first | apply Kd.R_alloc | apply Kd.R_drewN | apply Kd.R_drew)); exact HO_0.out⟩, ⟨by repeat (first | (with_reducible first | exact HK.out | apply Kept.alloc | apply Kept.drewN | apply Kept.drew) | exact HK.out)⟩, ⟨by repeat (first | (with_reducible first | exact HB.out | apply below_alloc | apply pw_below_drewN | apply below_drew1) | exact HB.out)⟩⟩
                      · rw [if_neg c25] at H
                        exact absurd H (by simp)
                    · rw [if_neg c24] at H
                      exact absurd H (by simp)
                  · rw [if_neg c23] at H
                    exact absurd H (by simp)
                · rw [if_neg c22] at H
                  exact absurd H (by simp)
      · rw [if_neg c4] at H
        have c4b0 : decide (x8_1 < 5) = false := decide_eq_false c4
        clear c4
        simp only [Option.some.injEq, Prod.mk.injEq] at H
        obtain ⟨rfl, rfl⟩ := H
        go_wp2
        go_ret
        exact ⟨by first | rfl | (simp [errW_none, errW_some] <;> rfl) | (simp [*, errW_none, errW_some] <;> rfl), by (with_reducible repeat (first | apply Kd.R_alloc | apply Kd.R_drewN | apply Kd.R_drew)); exact HO_0.out, by repeat (first | (with_reducible first | exact HB.out | apply below_alloc | apply pw_below_drewN | apply below_drew1) | exact HB.out), by repeat (first | (with_reducible first | exact HK.out | apply Kept.alloc | apply Kept.drewN | apply Kept.drew) | exact HK.out)⟩

end Go.Proofs.YtnicjjnghclgpaaDoor.QFnExactCountWinningTurns
