/- Written by the session's own program (wip/myprint.py), for the law FnExactCountWinningTurns: each function as a plain Lean function, and its contract. -/
import Derived.Test.YtnicjjnghclgpaaDoorQFnExactCountWinningTurnsx0
import Derived.Test.YtnicjjnghclgpaaDoorQFnExactCountWinningTurnsx3
namespace Go.Proofs.YtnicjjnghclgpaaDoor.QFnExactCountWinningTurns
open Go.RowKit Go.Proofs.YtnicjjnghclgpaaDoorW.PrintWords Go.Proofs.YtnicjjnghclgpaaDoorW.PrintLast Go.Proofs.YtnicjjnghclgpaaDoorW.PrintMore
attribute [local go_sem] max2_int min2_int max_two min_two max_three min_three max_four min_four   -- for this text's walks alone
set_option linter.unusedVariables false
set_option linter.unusedSimpArgs false

theorem pa_ {α : Type _} {l : List α} {i : Nat} {a : α} : l.toArray.setIfInBounds i a = (l.set i a).toArray := List.setIfInBounds_toArray l i a
theorem pz_ {α : Type _} {x : α} {xs : List α} {a : α} : (x :: xs).set 0 a = a :: xs := List.set_cons_zero
theorem pu_ {α : Type _} {x : α} {xs : List α} {n : Nat} {a : α} : (x :: xs).set (n + 1) a = x :: xs.set n a := List.set_cons_succ
/-! ### slices_partitionOrdered_uint32: function 59 -/
mutual
def slices_partitionOrdered_uint32.j1 : Nat → List Int → Int → Int → Int → Option (Int × Bool × List Int)
 | 0, _, _, _, _ => none
 | k + 1, x0, x1, x10, x11 => slices_partitionOrdered_uint32.l1 k x0 x1 x10 x11
def slices_partitionOrdered_uint32.j3 : Nat → List Int → Int → Int → Int → Option (Int × Bool × List Int)
 | 0, _, _, _, _ => none
 | k + 1, x0, x1, x10, x11 => if x10 > x11 then (if 0 ≤ x1 then (if x1 < (x0.length : Int) then (if 0 ≤ x11 then (if x11 < (x0.length : Int) then (some (x11, true, ((x0.set (x11 : Int).toNat (rd x0 x1)).set (x1 : Int).toNat (rd x0 x11)))) else (none)) else (none)) else (none)) else (none)) else (if 0 ≤ x11 then (if x11 < (x0.length : Int) then (if 0 ≤ x10 then (if x10 < (x0.length : Int) then (slices_partitionOrdered_uint32.l2 k ((x0.set (x10 : Int).toNat (rd x0 x11)).set (x11 : Int).toNat (rd x0 x10)) x1 (wrap64 (x10 + 1)) (wrap64 (x11 - 1))) else (none)) else (none)) else (none)) else (none))
def slices_partitionOrdered_uint32.l2 : Nat → List Int → Int → Int → Int → Option (Int × Bool × List Int)
 | 0, _, _, _, _ => none
 | k + 1, x0, x1, x10, x11 => slices_partitionOrdered_uint32.l3 k x0 x1 x10 x11
def slices_partitionOrdered_uint32.j6 : Nat → List Int → Int → Int → Int → Option (Int × Bool × List Int)
 | 0, _, _, _, _ => none
 | k + 1, x0, x1, x10, x11 => slices_partitionOrdered_uint32.l4 k x0 x1 x10 x11
def slices_partitionOrdered_uint32.l4 : Nat → List Int → Int → Int → Int → Option (Int × Bool × List Int)
 | 0, _, _, _, _ => none
 | k + 1, x0, x1, x10, x11 => if x10 ≤ x11 then (if 0 ≤ x11 then (if x11 < (x0.length : Int) then (if 0 ≤ x1 then (if x1 < (x0.length : Int) then ((cmp_Less_uint32.f (rd x0 x11) (rd x0 x1)).bind fun t227 => (if t227 = true then (if x10 > x11 then (some (x11, false, ((x0.set (x11 : Int).toNat (rd x0 x1)).set (x1 : Int).toNat (rd x0 x11)))) else (if 0 ≤ x10 then (if x10 < (x0.length : Int) then (slices_partitionOrdered_uint32.l2 k ((x0.set (x10 : Int).toNat (rd x0 x11)).set (x11 : Int).toNat (rd x0 x10)) x1 (wrap64 (x10 + 1)) (wrap64 (x11 - 1))) else (none)) else (none))) else (slices_partitionOrdered_uint32.l4 k x0 x1 x10 (wrap64 (x11 - 1))))) else (none)) else (none)) else (none)) else (none)) else (if x10 > x11 then (if 0 ≤ x1 then (if x1 < (x0.length : Int) then (if 0 ≤ x11 then (if x11 < (x0.length : Int) then (some (x11, false, ((x0.set (x11 : Int).toNat (rd x0 x1)).set (x1 : Int).toNat (rd x0 x11)))) else (none)) else (none)) else (none)) else (none)) else (if 0 ≤ x11 then (if x11 < (x0.length : Int) then (if 0 ≤ x10 then (if x10 < (x0.length : Int) then (slices_partitionOrdered_uint32.l2 k ((x0.set (x10 : Int).toNat (rd x0 x11)).set (x11 : Int).toNat (rd x0 x10)) x1 (wrap64 (x10 + 1)) (wrap64 (x11 - 1))) else (none)) else (none)) else (none)) else (none)))
def slices_partitionOrdered_uint32.l3 : Nat → List Int → Int → Int → Int → Option (Int × Bool × List Int)
 | 0, _, _, _, _ => none
 | k + 1, x0, x1, x10, x11 => if x10 ≤ x11 then (if 0 ≤ x10 then (if x10 < (x0.length : Int) then (if 0 ≤ x1 then (if x1 < (x0.length : Int) then ((cmp_Less_uint32.f (rd x0 x10) (rd x0 x1)).bind fun t224 => (if t224 = true then (slices_partitionOrdered_uint32.l3 k x0 x1 (wrap64 (x10 + 1)) x11) else (slices_partitionOrdered_uint32.j6 k x0 x1 x10 x11))) else (none)) else (none)) else (none)) else (none)) else (slices_partitionOrdered_uint32.j6 k x0 x1 x10 x11)
def slices_partitionOrdered_uint32.l1 : Nat → List Int → Int → Int → Int → Option (Int × Bool × List Int)
 | 0, _, _, _, _ => none
 | k + 1, x0, x1, x10, x11 => if x10 ≤ x11 then (if 0 ≤ x11 then (if x11 < (x0.length : Int) then (if 0 ≤ x1 then (if x1 < (x0.length : Int) then ((cmp_Less_uint32.f (rd x0 x11) (rd x0 x1)).bind fun t213 => (if t213 = true then (slices_partitionOrdered_uint32.j3 k x0 x1 x10 x11) else (slices_partitionOrdered_uint32.l1 k x0 x1 x10 (wrap64 (x11 - 1))))) else (none)) else (none)) else (none)) else (none)) else (slices_partitionOrdered_uint32.j3 k x0 x1 x10 x11)
def slices_partitionOrdered_uint32.l0 : Nat → List Int → Int → Int → Int → Option (Int × Bool × List Int)
 | 0, _, _, _, _ => none
 | k + 1, x0, x1, x10, x11 => if x10 ≤ x11 then (if 0 ≤ x10 then (if x10 < (x0.length : Int) then (if 0 ≤ x1 then (if x1 < (x0.length : Int) then ((cmp_Less_uint32.f (rd x0 x10) (rd x0 x1)).bind fun t210 => (if t210 = true then (slices_partitionOrdered_uint32.l0 k x0 x1 (wrap64 (x10 + 1)) x11) else (slices_partitionOrdered_uint32.j1 k x0 x1 x10 x11))) else (none)) else (none)) else (none)) else (none)) else (slices_partitionOrdered_uint32.j1 k x0 x1 x10 x11)
end
def slices_partitionOrdered_uint32.f (k : Nat) (l0 : List Int) (a1 : Int) (a2 : Int) (a3 : Int) : Option (Int × Bool × List Int) := if 0 ≤ a3 then (if a3 < (l0.length : Int) then (if 0 ≤ a1 then (if a1 < (l0.length : Int) then (slices_partitionOrdered_uint32.l0 k ((l0.set (a1 : Int).toNat (rd l0 a3)).set (a3 : Int).toNat (rd l0 a1)) a1 (wrap64 (a1 + 1)) (wrap64 (a2 - 1))) else (none)) else (none)) else (none)) else (none)
theorem slices_partitionOrdered_uint32.mono_l : ∀ k, (∀ y0 y1 y2 y3, LeO (slices_partitionOrdered_uint32.j1 k y0 y1 y2 y3) (slices_partitionOrdered_uint32.j1 (k + 1) y0 y1 y2 y3)) ∧ (∀ y0 y1 y2 y3, LeO (slices_partitionOrdered_uint32.j3 k y0 y1 y2 y3) (slices_partitionOrdered_uint32.j3 (k + 1) y0 y1 y2 y3)) ∧ (∀ y0 y1 y2 y3, LeO (slices_partitionOrdered_uint32.l2 k y0 y1 y2 y3) (slices_partitionOrdered_uint32.l2 (k + 1) y0 y1 y2 y3)) ∧ (∀ y0 y1 y2 y3, LeO (slices_partitionOrdered_uint32.j6 k y0 y1 y2 y3) (slices_partitionOrdered_uint32.j6 (k + 1) y0 y1 y2 y3)) ∧ (∀ y0 y1 y2 y3, LeO (slices_partitionOrdered_uint32.l4 k y0 y1 y2 y3) (slices_partitionOrdered_uint32.l4 (k + 1) y0 y1 y2 y3)) ∧ (∀ y0 y1 y2 y3, LeO (slices_partitionOrdered_uint32.l3 k y0 y1 y2 y3) (slices_partitionOrdered_uint32.l3 (k + 1) y0 y1 y2 y3)) ∧ (∀ y0 y1 y2 y3, LeO (slices_partitionOrdered_uint32.l1 k y0 y1 y2 y3) (slices_partitionOrdered_uint32.l1 (k + 1) y0 y1 y2 y3)) ∧ (∀ y0 y1 y2 y3, LeO (slices_partitionOrdered_uint32.l0 k y0 y1 y2 y3) (slices_partitionOrdered_uint32.l0 (k + 1) y0 y1 y2 y3))
 | 0 => ⟨fun _ _ _ _ r h => by simp [slices_partitionOrdered_uint32.j1] at h, fun _ _ _ _ r h => by simp [slices_partitionOrdered_uint32.j3] at h, fun _ _ _ _ r h => by simp [slices_partitionOrdered_uint32.l2] at h, fun _ _ _ _ r h => by simp [slices_partitionOrdered_uint32.j6] at h, fun _ _ _ _ r h => by simp [slices_partitionOrdered_uint32.l4] at h, fun _ _ _ _ r h => by simp [slices_partitionOrdered_uint32.l3] at h, fun _ _ _ _ r h => by simp [slices_partitionOrdered_uint32.l1] at h, fun _ _ _ _ r h => by simp [slices_partitionOrdered_uint32.l0] at h⟩
 | k + 1 => by
  obtain ⟨ih0, ih1, ih2, ih3, ih4, ih5, ih6, ih7⟩ := slices_partitionOrdered_uint32.mono_l k
  refine ⟨?_, ?_, ?_, ?_, ?_, ?_, ?_, ?_⟩
  ·intro y0 y1 y2 y3
   unfold slices_partitionOrdered_uint32.j1
   repeat' first
   | (with_reducible exact ih0 _ _ _ _)
   | (with_reducible exact ih1 _ _ _ _)
   | (with_reducible exact ih2 _ _ _ _)
   | (with_reducible exact ih3 _ _ _ _)
   | (with_reducible exact ih4 _ _ _ _)
   | (with_reducible exact ih5 _ _ _ _)
   | (with_reducible exact ih6 _ _ _ _)
   | (with_reducible exact ih7 _ _ _ _)
   | (with_reducible exact LeO.refl _)
   | (with_reducible exact LeO.none _)
   | (with_reducible refine LeO.ite ?_ ?_)
   | (with_reducible refine LeO.bind ?_ (fun _ => ?_))
   | exact ih0 _ _ _ _
   | exact ih1 _ _ _ _
   | exact ih2 _ _ _ _
   | exact ih3 _ _ _ _
   | exact ih4 _ _ _ _
   | exact ih5 _ _ _ _
   | exact ih6 _ _ _ _
   | exact ih7 _ _ _ _
   | exact LeO.none _
   | refine LeO.ite ?_ ?_
   | refine LeO.bind ?_ (fun _ => ?_)
  ·intro y0 y1 y2 y3
   unfold slices_partitionOrdered_uint32.j3
   repeat' first
   | (with_reducible exact ih0 _ _ _ _)
   | (with_reducible exact ih1 _ _ _ _)
   | (with_reducible exact ih2 _ _ _ _)
   | (with_reducible exact ih3 _ _ _ _)
   | (with_reducible exact ih4 _ _ _ _)
   | (with_reducible exact ih5 _ _ _ _)
   | (with_reducible exact ih6 _ _ _ _)
   | (with_reducible exact ih7 _ _ _ _)
   | (with_reducible exact LeO.refl _)
   | (with_reducible exact LeO.none _)
   | (with_reducible refine LeO.ite ?_ ?_)
   | (with_reducible refine LeO.bind ?_ (fun _ => ?_))
   | exact ih0 _ _ _ _
   | exact ih1 _ _ _ _
   | exact ih2 _ _ _ _
   | exact ih3 _ _ _ _
   | exact ih4 _ _ _ _
   | exact ih5 _ _ _ _
   | exact ih6 _ _ _ _
   | exact ih7 _ _ _ _
   | exact LeO.none _
   | refine LeO.ite ?_ ?_
   | refine LeO.bind ?_ (fun _ => ?_)
  ·intro y0 y1 y2 y3
   unfold slices_partitionOrdered_uint32.l2
   repeat' first
   | (with_reducible exact ih0 _ _ _ _)
   | (with_reducible exact ih1 _ _ _ _)
   | (with_reducible exact ih2 _ _ _ _)
   | (with_reducible exact ih3 _ _ _ _)
   | (with_reducible exact ih4 _ _ _ _)
   | (with_reducible exact ih5 _ _ _ _)
   | (with_reducible exact ih6 _ _ _ _)
   | (with_reducible exact ih7 _ _ _ _)
   | (with_reducible exact LeO.refl _)
   | (with_reducible exact LeO.none _)
   | (with_reducible refine LeO.ite ?_ ?_)
   | (with_reducible refine LeO.bind ?_ (fun _ => ?_))
   | exact ih0 _ _ _ _
   | exact ih1 _ _ _ _
   | exact ih2 _ _ _ _
   | exact ih3 _ _ _ _
   | exact ih4 _ _ _ _
   | exact ih5 _ _ _ _
   | exact ih6 _ _ _ _
   | exact ih7 _ _ _ _
   | exact LeO.none _
   | refine LeO.ite ?_ ?_
   | refine LeO.bind ?_ (fun _ => ?_)
  ·intro y0 y1 y2 y3
   unfold slices_partitionOrdered_uint32.j6
   repeat' first
   | (with_reducible exact ih0 _ _ _ _)
   | (with_reducible exact ih1 _ _ _ _)
   | (with_reducible exact ih2 _ _ _ _)
   | (with_reducible exact ih3 _ _ _ _)
   | (with_reducible exact ih4 _ _ _ _)
   | (with_reducible exact ih5 _ _ _ _)
   | (with_reducible exact ih6 _ _ _ _)
   | (with_reducible exact ih7 _ _ _ _)
   | (with_reducible exact LeO.refl _)
   | (with_reducible exact LeO.none _)
   | (with_reducible refine LeO.ite ?_ ?_)
   | (with_reducible refine LeO.bind ?_ (fun _ => ?_))
   | exact ih0 _ _ _ _
   | exact ih1 _ _ _ _
   | exact ih2 _ _ _ _
   | exact ih3 _ _ _ _
   | exact ih4 _ _ _ _
   | exact ih5 _ _ _ _
   | exact ih6 _ _ _ _
   | exact ih7 _ _ _ _
   | exact LeO.none _
   | refine LeO.ite ?_ ?_
   | refine LeO.bind ?_ (fun _ => ?_)
  ·intro y0 y1 y2 y3
   unfold slices_partitionOrdered_uint32.l4
   repeat' first
   | (with_reducible exact ih0 _ _ _ _)
   | (with_reducible exact ih1 _ _ _ _)
   | (with_reducible exact ih2 _ _ _ _)
   | (with_reducible exact ih3 _ _ _ _)
   | (with_reducible exact ih4 _ _ _ _)
   | (with_reducible exact ih5 _ _ _ _)
   | (with_reducible exact ih6 _ _ _ _)
   | (with_reducible exact ih7 _ _ _ _)
   | (with_reducible exact LeO.refl _)
   | (with_reducible exact LeO.none _)
   | (with_reducible refine LeO.ite ?_ ?_)
   | (with_reducible refine LeO.bind ?_ (fun _ => ?_))
   | exact ih0 _ _ _ _
   | exact ih1 _ _ _ _
   | exact ih2 _ _ _ _
   | exact ih3 _ _ _ _
   | exact ih4 _ _ _ _
   | exact ih5 _ _ _ _
   | exact ih6 _ _ _ _
   | exact ih7 _ _ _ _
   | exact LeO.none _
   | refine LeO.ite ?_ ?_
   | refine LeO.bind ?_ (fun _ => ?_)
  ·intro y0 y1 y2 y3
   unfold slices_partitionOrdered_uint32.l3
   repeat' first
   | (with_reducible exact ih0 _ _ _ _)
   | (with_reducible exact ih1 _ _ _ _)
   | (with_reducible exact ih2 _ _ _ _)
   | (with_reducible exact ih3 _ _ _ _)
   | (with_reducible exact ih4 _ _ _ _)
   | (with_reducible exact ih5 _ _ _ _)
   | (with_reducible exact ih6 _ _ _ _)
   | (with_reducible exact ih7 _ _ _ _)
   | (with_reducible exact LeO.refl _)
   | (with_reducible exact LeO.none _)
   | (with_reducible refine LeO.ite ?_ ?_)
   | (with_reducible refine LeO.bind ?_ (fun _ => ?_))
   | exact ih0 _ _ _ _
   | exact ih1 _ _ _ _
   | exact ih2 _ _ _ _
   | exact ih3 _ _ _ _
   | exact ih4 _ _ _ _
   | exact ih5 _ _ _ _
   | exact ih6 _ _ _ _
   | exact ih7 _ _ _ _
   | exact LeO.none _
   | refine LeO.ite ?_ ?_
   | refine LeO.bind ?_ (fun _ => ?_)
  ·intro y0 y1 y2 y3
   unfold slices_partitionOrdered_uint32.l1
   repeat' first
   | (with_reducible exact ih0 _ _ _ _)
   | (with_reducible exact ih1 _ _ _ _)
   | (with_reducible exact ih2 _ _ _ _)
   | (with_reducible exact ih3 _ _ _ _)
   | (with_reducible exact ih4 _ _ _ _)
   | (with_reducible exact ih5 _ _ _ _)
   | (with_reducible exact ih6 _ _ _ _)
   | (with_reducible exact ih7 _ _ _ _)
   | (with_reducible exact LeO.refl _)
   | (with_reducible exact LeO.none _)
   | (with_reducible refine LeO.ite ?_ ?_)
   | (with_reducible refine LeO.bind ?_ (fun _ => ?_))
   | exact ih0 _ _ _ _
   | exact ih1 _ _ _ _
   | exact ih2 _ _ _ _
   | exact ih3 _ _ _ _
   | exact ih4 _ _ _ _
   | exact ih5 _ _ _ _
   | exact ih6 _ _ _ _
   | exact ih7 _ _ _ _
   | exact LeO.none _
   | refine LeO.ite ?_ ?_
   | refine LeO.bind ?_ (fun _ => ?_)
  ·intro y0 y1 y2 y3
   unfold slices_partitionOrdered_uint32.l0
   repeat' first
   | (with_reducible exact ih0 _ _ _ _)
   | (with_reducible exact ih1 _ _ _ _)
   | (with_reducible exact ih2 _ _ _ _)
   | (with_reducible exact ih3 _ _ _ _)
   | (with_reducible exact ih4 _ _ _ _)
   | (with_reducible exact ih5 _ _ _ _)
   | (with_reducible exact ih6 _ _ _ _)
   | (with_reducible exact ih7 _ _ _ _)
   | (with_reducible exact LeO.refl _)
   | (with_reducible exact LeO.none _)
   | (with_reducible refine LeO.ite ?_ ?_)
   | (with_reducible refine LeO.bind ?_ (fun _ => ?_))
   | exact ih0 _ _ _ _
   | exact ih1 _ _ _ _
   | exact ih2 _ _ _ _
   | exact ih3 _ _ _ _
   | exact ih4 _ _ _ _
   | exact ih5 _ _ _ _
   | exact ih6 _ _ _ _
   | exact ih7 _ _ _ _
   | exact LeO.none _
   | refine LeO.ite ?_ ?_
   | refine LeO.bind ?_ (fun _ => ?_)
theorem slices_partitionOrdered_uint32.mono : ∀ a0 a1 a2 a3 k, LeO (slices_partitionOrdered_uint32.f k a0 a1 a2 a3) (slices_partitionOrdered_uint32.f (k + 1) a0 a1 a2 a3) := by
 intro a0 a1 a2 a3 k
 obtain ⟨ih0, ih1, ih2, ih3, ih4, ih5, ih6, ih7⟩ := slices_partitionOrdered_uint32.mono_l k
 unfold slices_partitionOrdered_uint32.f
 repeat' first
   | (with_reducible exact ih0 _ _ _ _)
   | (with_reducible exact ih1 _ _ _ _)
   | (with_reducible exact ih2 _ _ _ _)
   | (with_reducible exact ih3 _ _ _ _)
   | (with_reducible exact ih4 _ _ _ _)
   | (with_reducible exact ih5 _ _ _ _)
   | (with_reducible exact ih6 _ _ _ _)
   | (with_reducible exact ih7 _ _ _ _)
   | (with_reducible exact LeO.refl _)
   | (with_reducible exact LeO.none _)
   | (with_reducible refine LeO.ite ?_ ?_)
   | (with_reducible refine LeO.bind ?_ (fun _ => ?_))
   | exact ih0 _ _ _ _
   | exact ih1 _ _ _ _
   | exact ih2 _ _ _ _
   | exact ih3 _ _ _ _
   | exact ih4 _ _ _ _
   | exact ih5 _ _ _ _
   | exact ih6 _ _ _ _
   | exact ih7 _ _ _ _
   | exact LeO.none _
   | refine LeO.ite ?_ ?_
   | refine LeO.bind ?_ (fun _ => ?_)
def slices_partitionOrdered_uint32.T1 : Bool × List (List Nat × List Nat) := (true, [([], []), ([], []), ([], []), ([], []), ([], []), ([], []), ([4, 5], [4, 5]), ([6], [6]), ([], []), ([], []), ([8, 9], [8, 9]), ([10], [10]), ([0, 1, 0, 1, 4, 5, 6, 7, 11], [0, 1]), ([12, 7, 0, 1, 4, 5, 6, 7, 11], [7, 12]), ([2, 3, 0, 1, 2, 3, 4, 5, 6, 7, 8, 9, 10, 11, 12, 13], [2, 3]), ([14, 11, 13, 0, 1, 2, 3, 4, 5, 6, 7, 8, 9, 10, 11, 12, 13], [11, 14])])
def slices_partitionOrdered_uint32.B1 : List Nat := [0, 0, 0, 0, 0, 0, 48, 112, 0, 0, 768, 1792, 4083, 8179, 16383, 32767]
theorem slices_partitionOrdered_uint32.tab1 : rtab .any (opsOf Tryd.f59 1) = slices_partitionOrdered_uint32.T1 := by kernel_rfl
theorem slices_partitionOrdered_uint32.bits1 : waitsOk slices_partitionOrdered_uint32.T1.2 slices_partitionOrdered_uint32.B1 = true := by kernel_rfl
def slices_partitionOrdered_uint32.T3 : Bool × List (List Nat × List Nat) := (true, [([], []), ([], []), ([0, 1], [0, 1]), ([2], [2]), ([3], [3]), ([3], [3]), ([4, 5, 3], [3, 4, 5]), ([6, 3], [3, 6]), ([3], [3]), ([3], [3]), ([8, 9, 3], [3, 8, 9]), ([10, 3], [3, 10]), ([7, 11, 3, 3], [3, 7, 11]), ([3, 12], [3, 12])])
def slices_partitionOrdered_uint32.B3 : List Nat := [0, 0, 3, 7, 15, 15, 63, 127, 15, 15, 783, 1807, 4095, 8191]
theorem slices_partitionOrdered_uint32.tab3 : rtab .any (opsOf Tryd.f59 3) = slices_partitionOrdered_uint32.T3 := by kernel_rfl
theorem slices_partitionOrdered_uint32.bits3 : waitsOk slices_partitionOrdered_uint32.T3.2 slices_partitionOrdered_uint32.B3 = true := by kernel_rfl
def slices_partitionOrdered_uint32.T5 : Bool × List (List Nat × List Nat) := (true, [([], []), ([], []), ([0, 1], [0, 1]), ([2], [2]), ([3], [3]), ([3], [3]), ([4, 5, 3], [3, 4, 5]), ([6, 3], [3, 6]), ([3], [3]), ([3], [3]), ([8, 9, 3], [3, 8, 9]), ([10, 3], [3, 10]), ([7, 11, 3, 3], [3, 7, 11]), ([12, 3], [3, 12]), ([3, 13], [3, 13])])
def slices_partitionOrdered_uint32.B5 : List Nat := [0, 0, 3, 7, 15, 15, 63, 127, 15, 15, 783, 1807, 4095, 8191, 16383]
theorem slices_partitionOrdered_uint32.tab5 : rtab .any (opsOf Tryd.f59 5) = slices_partitionOrdered_uint32.T5 := by kernel_rfl
theorem slices_partitionOrdered_uint32.bits5 : waitsOk slices_partitionOrdered_uint32.T5.2 slices_partitionOrdered_uint32.B5 = true := by kernel_rfl
def slices_partitionOrdered_uint32.T8 : Bool × List (List Nat × List Nat) := (true, [([], []), ([], []), ([], []), ([], []), ([], []), ([], []), ([4, 5], [4, 5]), ([6], [6]), ([], []), ([], []), ([8, 9], [8, 9]), ([10], [10]), ([0, 1, 0, 1, 4, 5, 6, 7, 11], [0, 1]), ([12, 7, 0, 1, 4, 5, 6, 7, 11], [7, 12]), ([2, 3, 0, 1, 2, 3, 4, 5, 6, 7, 8, 9, 10, 11, 12, 13], [2, 3]), ([14, 11, 13, 0, 1, 2, 3, 4, 5, 6, 7, 8, 9, 10, 11, 12, 13], [11, 14])])
def slices_partitionOrdered_uint32.B8 : List Nat := [0, 0, 0, 0, 0, 0, 48, 112, 0, 0, 768, 1792, 4083, 8179, 16383, 32767]
theorem slices_partitionOrdered_uint32.tab8 : rtab .any (opsOf Tryd.f59 8) = slices_partitionOrdered_uint32.T8 := by kernel_rfl
theorem slices_partitionOrdered_uint32.bits8 : waitsOk slices_partitionOrdered_uint32.T8.2 slices_partitionOrdered_uint32.B8 = true := by kernel_rfl
def slices_partitionOrdered_uint32.T10 : Bool × List (List Nat × List Nat) := (true, [([], []), ([], []), ([], []), ([], []), ([], []), ([], []), ([4, 5], [4, 5]), ([6], [6]), ([], []), ([], []), ([8, 9], [8, 9]), ([10], [10]), ([0, 1, 0, 1, 4, 5, 6, 7, 11], [0, 1]), ([12, 7, 0, 1, 4, 5, 6, 7, 11], [7, 12]), ([2, 3, 0, 1, 2, 3, 4, 5, 6, 7, 8, 9, 10, 11, 12, 13], [2, 3]), ([14, 11, 13, 0, 1, 2, 3, 4, 5, 6, 7, 8, 9, 10, 11, 12, 13], [11, 14])])
def slices_partitionOrdered_uint32.B10 : List Nat := [0, 0, 0, 0, 0, 0, 48, 112, 0, 0, 768, 1792, 4083, 8179, 16383, 32767]
theorem slices_partitionOrdered_uint32.tab10 : rtab .any (opsOf Tryd.f59 10) = slices_partitionOrdered_uint32.T10 := by kernel_rfl
theorem slices_partitionOrdered_uint32.bits10 : waitsOk slices_partitionOrdered_uint32.T10.2 slices_partitionOrdered_uint32.B10 = true := by kernel_rfl
def slices_partitionOrdered_uint32.T13 : Bool × List (List Nat × List Nat) := (true, [([], []), ([], []), ([0, 1], [0, 1]), ([2], [2]), ([3], [3]), ([3], [3]), ([4, 5, 3], [3, 4, 5]), ([6, 3], [3, 6]), ([3], [3]), ([3], [3]), ([8, 9, 3], [3, 8, 9]), ([10, 3], [3, 10]), ([7, 11, 3, 3], [3, 7, 11]), ([3, 12], [3, 12])])
def slices_partitionOrdered_uint32.B13 : List Nat := [0, 0, 3, 7, 15, 15, 63, 127, 15, 15, 783, 1807, 4095, 8191]
theorem slices_partitionOrdered_uint32.tab13 : rtab .any (opsOf Tryd.f59 13) = slices_partitionOrdered_uint32.T13 := by kernel_rfl
theorem slices_partitionOrdered_uint32.bits13 : waitsOk slices_partitionOrdered_uint32.T13.2 slices_partitionOrdered_uint32.B13 = true := by kernel_rfl
def slices_partitionOrdered_uint32.T15 : Bool × List (List Nat × List Nat) := (true, [([], []), ([], []), ([0, 1], [0, 1]), ([2], [2]), ([3], [3]), ([3], [3]), ([4, 5, 3], [3, 4, 5]), ([6, 3], [3, 6]), ([3], [3]), ([3], [3]), ([8, 9, 3], [3, 8, 9]), ([10, 3], [3, 10]), ([7, 11, 3, 3], [3, 7, 11]), ([12, 3], [3, 12]), ([3, 13], [3, 13])])
def slices_partitionOrdered_uint32.B15 : List Nat := [0, 0, 3, 7, 15, 15, 63, 127, 15, 15, 783, 1807, 4095, 8191, 16383]
theorem slices_partitionOrdered_uint32.tab15 : rtab .any (opsOf Tryd.f59 15) = slices_partitionOrdered_uint32.T15 := by kernel_rfl
theorem slices_partitionOrdered_uint32.bits15 : waitsOk slices_partitionOrdered_uint32.T15.2 slices_partitionOrdered_uint32.B15 = true := by kernel_rfl
def slices_partitionOrdered_uint32.T18 : Bool × List (List Nat × List Nat) := (true, [([], []), ([], []), ([], []), ([], []), ([], []), ([], []), ([4, 5], [4, 5]), ([6], [6]), ([], []), ([], []), ([8, 9], [8, 9]), ([10], [10]), ([0, 1, 0, 1, 4, 5, 6, 7, 11], [0, 1]), ([12, 7, 0, 1, 4, 5, 6, 7, 11], [7, 12]), ([2, 3, 0, 1, 2, 3, 4, 5, 6, 7, 8, 9, 10, 11, 12, 13], [2, 3]), ([14, 11, 13, 0, 1, 2, 3, 4, 5, 6, 7, 8, 9, 10, 11, 12, 13], [11, 14])])
def slices_partitionOrdered_uint32.B18 : List Nat := [0, 0, 0, 0, 0, 0, 48, 112, 0, 0, 768, 1792, 4083, 8179, 16383, 32767]
theorem slices_partitionOrdered_uint32.tab18 : rtab .any (opsOf Tryd.f59 18) = slices_partitionOrdered_uint32.T18 := by kernel_rfl
theorem slices_partitionOrdered_uint32.bits18 : waitsOk slices_partitionOrdered_uint32.T18.2 slices_partitionOrdered_uint32.B18 = true := by kernel_rfl
def slices_partitionOrdered_uint32.T21 : Bool × List (List Nat × List Nat) := (true, [([], []), ([], []), ([], []), ([], []), ([], []), ([], []), ([4, 5], [4, 5]), ([6], [6]), ([], []), ([], []), ([8, 9], [8, 9]), ([10], [10]), ([0, 1, 0, 1, 4, 5, 6, 7, 11], [0, 1]), ([12, 7, 0, 1, 4, 5, 6, 7, 11], [7, 12]), ([2, 3, 0, 1, 2, 3, 4, 5, 6, 7, 8, 9, 10, 11, 12, 13], [2, 3]), ([14, 11, 13, 0, 1, 2, 3, 4, 5, 6, 7, 8, 9, 10, 11, 12, 13], [11, 14])])
def slices_partitionOrdered_uint32.B21 : List Nat := [0, 0, 0, 0, 0, 0, 48, 112, 0, 0, 768, 1792, 4083, 8179, 16383, 32767]
theorem slices_partitionOrdered_uint32.tab21 : rtab .any (opsOf Tryd.f59 21) = slices_partitionOrdered_uint32.T21 := by kernel_rfl
theorem slices_partitionOrdered_uint32.bits21 : waitsOk slices_partitionOrdered_uint32.T21.2 slices_partitionOrdered_uint32.B21 = true := by kernel_rfl
set_option maxHeartbeats 8000000 in
set_option maxRecDepth 100000 in
theorem slices_partitionOrdered_uint32.calls (k : Nat) (P0_ : Nat → Prop) (u9000_ : Value) (l0 : List Int) (a1 : Int) (a2 : Int) (a3 : Int) (r1 : Int) (r2 : Bool) (r3 : List Int) (w0 w : World) (hB : Below w0.heap.size w0 w) (ho0 : Kd.R (Kd.int .u32) 33 w w0.heap.size P0_ u9000_ l0) (h : slices_partitionOrdered_uint32.f k l0 a1 a2 a3 = some (r1, r2, r3)) :
  Calls Tryd.prog 59 #[u9000_, .int .i64 a1, .int .i64 a2, .int .i64 a3] w fun e w' => e = .returned (.tuple #[.int .i64 r1, .bool r2]) ∧ Kd.R (Kd.int .u32) 33 w' w0.heap.size (fun k_ => (P0_ k_ ∨ w.heap.size ≤ k_)) u9000_ r3 ∧ Below w0.heap.size w0 w' ∧ Kept w w' (fun k_ => P0_ k_) := by
 have HO0 := Aside0.mk (show Kd.R (Kd.int .u32) 33 w w0.heap.size (fun k_ => (P0_ k_ ∨ w.heap.size ≤ k_)) u9000_ l0 from Kd.R_mono ho0 (fun k_ hk => (.inl hk)))
 have HK := Aside0.mk (Kept.refl w (fun k_ => P0_ k_))
 have HW0 := Aside0.mk hB.size
 have HB := Aside0.mk hB
 clear hB
 have H : (if 0 ≤ a3 then (if a3 < (l0.length : Int) then (if 0 ≤ a1 then (if a1 < (l0.length : Int) then (slices_partitionOrdered_uint32.l0 k ((l0.set (a1 : Int).toNat (rd l0 a3)).set (a3 : Int).toNat (rd l0 a1)) a1 (wrap64 (a1 + 1)) (wrap64 (a2 - 1))) else (none)) else (none)) else (none)) else (none)) = some (r1, r2, r3) := h
 clear h
 by_cases c5 : 0 ≤ a3
 ·rw [if_pos c5] at H
  have c5b0 : decide (0 ≤ a3) = true := decide_eq_true c5
  clear c5
  by_cases c6 : a3 < (l0.length : Int)
  ·rw [if_pos c6] at H
   have c6b0 : decide (a3 < (l0.length : Int)) = true := decide_eq_true c6
   clear c6
   by_cases c7 : 0 ≤ a1
   ·rw [if_pos c7] at H
    have c7b0 : decide (0 ≤ a1) = true := decide_eq_true c7
    clear c7
    by_cases c8 : a1 < (l0.length : Int)
    ·rw [if_pos c8] at H
     have c8b0 : decide (a1 < (l0.length : Int)) = true := decide_eq_true c8
     clear c8
     obtain ⟨y206, hy206⟩ : ∃ y_ : List Int, y_ = (l0.set (a1 : Int).toNat (rd l0 a3)) := ⟨_, rfl⟩
     replace H : (slices_partitionOrdered_uint32.l0 k (y206.set (a3 : Int).toNat (rd l0 a1)) a1 (wrap64 (a1 + 1)) (wrap64 (a2 - 1))) = some (r1, r2, r3) := by first | (rw [hy206]; with_reducible exact H) | (have H2_ := (Option.bind_some _ _).symm.trans H; rw [hy206]; with_reducible exact H2_) | (have H2_ := (Option.bind_some _ _).symm.trans H; with_reducible exact H2_) | with_reducible exact H | (rw [hy206]; exact H) | exact H
     have Ny206 := Aside0.mk hy206
     clear hy206
     obtain ⟨y207, hy207⟩ : ∃ y_ : List Int, y_ = (y206.set (a3 : Int).toNat (rd l0 a1)) := ⟨_, rfl⟩
     replace H : (slices_partitionOrdered_uint32.l0 k y207 a1 (wrap64 (a1 + 1)) (wrap64 (a2 - 1))) = some (r1, r2, r3) := by first | (rw [hy207]; with_reducible exact H) | (have H2_ := (Option.bind_some _ _).symm.trans H; rw [hy207]; with_reducible exact H2_) | (have H2_ := (Option.bind_some _ _).symm.trans H; with_reducible exact H2_) | with_reducible exact H | (rw [hy207]; exact H) | exact H
     have Ny207 := Aside0.mk hy207
     clear hy207
     have HC11 := Aside0.mk H
     clear H
     go_enter Tryd.func59, Tryd.ntmps59
     try go_wp2
     have n0_ := Aside0.mk (Kd.R_drew HO0.out)
     have n1_ := Aside0.mk (Kept.drew HK.out)
     have n2_ := Aside0.mk (below_drew1 HB.out)
     clear HO0
     clear HK
     clear HB
     have HO0 := n0_
     have HK := n1_
     have HB := n2_
     clear n0_ n1_ n2_
     obtain ⟨Ao13, co13, eo13⟩ := Kd.R_slice HO0.out
     (first | subst eo13 | (injection eo13 with f1_ f2_ f3_; have f4_ := f1_.symm; have f5_ := f3_.symm; clear f1_ f2_ f3_; subst f4_; subst f5_))
     have p204 : 0 ≤ (a3 : Int) := of_decide_eq_true (by first | (with_reducible assumption) | assumption)
     have q204 : a3 < (l0.length : Int) := of_decide_eq_true (by first | (with_reducible assumption) | assumption)
     obtain ⟨ad204, e204, hx204_0⟩ := Kd.at_int (Kd.R_reads' HO0.out).2.2 a3 p204 q204
     cases e204
     replace p204 := eq_true p204
     replace q204 := eq_true q204
     have p205 : 0 ≤ (a1 : Int) := of_decide_eq_true (by first | (with_reducible assumption) | assumption)
     have q205 : a1 < (l0.length : Int) := of_decide_eq_true (by first | (with_reducible assumption) | assumption)
     obtain ⟨ad205, e205, hx205_0⟩ := Kd.at_int (Kd.R_reads' HO0.out).2.2 a1 p205 q205
     obtain rfl : ad204 = ad205 := (by injection e205)
     replace p205 := eq_true p205
     replace q205 := eq_true q205
     have p9 : 0 ≤ (a1 : Int) := of_decide_eq_true (by first | (with_reducible assumption) | assumption)
     have q9 : (a1 : Int) < ((l0.length : Int) : Int) := of_decide_eq_true (by first | (with_reducible assumption) | assumption)
     obtain ⟨go9, co9, eo9, gb9, gl9, cl9, HG9⟩ := Kd.R_form HO0.out (by omega)
     (first | cases eo9 | (injection eo9 with ea_ en_ ec_; (first | subst ea_ | (injection ea_ with ea_; subst ea_)); subst ec_; clear en_))
     have GB9 := Aside0.mk gb9
     have GG9 := Aside0.mk HG9
     clear gb9 gl9 HG9
     have HMgo9 := Aside0.mk (show (P0_ go9 ∨ w.heap.size ≤ go9) from (HO0.out.1 _ rfl))
     (first | simp only [add_plain] at hx204_0 | skip)
     (first | simp only [add_plain] at hx205_0 | skip)
     obtain ⟨hx9_0, hf9_0⟩ := Kd.R_celln 0 HO0.out (a1 : Int) p9 q9
     replace p9 := eq_true p9
     replace q9 := eq_true q9
     have HP14 := Kd.R_putn HO0.out (a1 : Int) (rd l0 a3)
     rw [← Ny206.out] at HP14
     have HQ14 := Aside0.mk HP14
     clear HP14
     have p10 : 0 ≤ (a3 : Int) := of_decide_eq_true (by first | (with_reducible assumption) | assumption)
     have q10 : (a3 : Int) < ((l0.length : Int) : Int) := of_decide_eq_true (by first | (with_reducible assumption) | assumption)
     obtain ⟨hx10_0, hf10_0⟩ := Kd.R_celln 0 HQ14.out (a3 : Int) p10 q10
     replace p10 := eq_true p10
     replace q10 := eq_true q10
     have HP15 := Kd.R_putn HQ14.out (a3 : Int) (rd l0 a1)
     rw [← Ny207.out] at HP15
     have HQ15 := Aside0.mk HP15
     clear HP15
     refine start_ (n:=16) (S := fun w' => w'.cell? ⟨go9, (a3).toNat, none⟩ = some (.int .u32 (rd l0 a3)) ∧ w'.cell? ⟨go9, (a1).toNat, none⟩ = some (.int .u32 (rd l0 a1))) (ds := [13, 15]) #[false,false,false,false,false,false,false,false,false,false,false,false,false,false,false,false] (by kernel_rfl) rfl rfl ⟨hx204_0, hx205_0⟩ (fun hHeld => ?_); refine with_tabW slices_partitionOrdered_uint32.tab1 slices_partitionOrdered_uint32.bits1 (fun HT_ HW_ => ?_)
     generalize w.drew = w12 at HO0 HK HB GG9 HQ14 HQ15 hf10_0 hf9_0 hx10_0 hx204_0 hx205_0 hx9_0 hHeld ⊢
     refine pure_ (i:=0) (N:=some 12) (v:=?_) (a':=?_) #[true,false,false,false,false,false,false,false,false,false,false,false,false,false,false,false] rfl rfl (any_of HT_.out (by kernel_rfl)) (fun _ _ _ h => h) (Or.inl ⟨by rfl, ?_⟩) ?_ ?_
     rotate_left;·intro w';go_simp;with_reducible rfl
     rotate_left;·simp only [Act.put, pa_, pz_, pu_, i64_w, i32_w];rfl
     refine pure_ (i:=1) (N:=some 13) (v:=?_) (a':=?_) #[true,true,false,false,false,false,false,false,false,false,false,false,false,false,false,false] rfl rfl (any_of HT_.out (by kernel_rfl)) (fun _ _ _ h => h) (Or.inl ⟨by rfl, ?_⟩) ?_ ?_
     rotate_left;·intro w';go_simp;with_reducible rfl
     rotate_left;·simp only [Act.put, pa_, pz_, pu_, i64_w, i32_w];rfl
     refine pure_ (i:=2) (N:=some 14) (v:=?_) (a':=?_) #[true,true,true,false,false,false,false,false,false,false,false,false,false,false,false,false] rfl rfl (any_of HT_.out (by kernel_rfl)) (fun _ _ _ h => h) (Or.inl ⟨by rfl, ?_⟩) ?_ ?_
     rotate_left;·intro w';go_simp;with_reducible rfl
     rotate_left;·simp only [Act.put, pa_, pz_, pu_, i64_w, i32_w];rfl
     refine pure_ (i:=3) (N:=some 15) (v:=?_) (a':=?_) #[true,true,true,true,false,false,false,false,false,false,false,false,false,false,false,false] rfl rfl (any_of HT_.out (by kernel_rfl)) (fun _ _ _ h => h) (Or.inl ⟨by rfl, ?_⟩) ?_ ?_
     rotate_left;·intro w';go_simp;with_reducible rfl
     rotate_left;·simp only [Act.put, pa_, pz_, pu_, i64_w, i32_w];rfl
     refine pure_ (i:=4) (N:=some 16) (v:=?_) (a':=?_) #[true,true,true,true,true,false,false,false,false,false,false,false,false,false,false,false] rfl rfl (any_of HT_.out (by kernel_rfl)) (fun _ _ _ h => h) (Or.inl ⟨by rfl, ?_⟩) ?_ ?_
     rotate_left;·intro w';go_simp;with_reducible rfl
     rotate_left;·simp only [Act.put, pa_, pz_, pu_, i64_w, i32_w];rfl
     refine pure_ (i:=5) (N:=some 17) (v:=?_) (a':=?_) #[true,true,true,true,true,true,false,false,false,false,false,false,false,false,false,false] rfl rfl (any_of HT_.out (by kernel_rfl)) (fun _ _ _ h => h) (Or.inl ⟨by rfl, ?_⟩) ?_ ?_
     rotate_left;·intro w';go_simp;with_reducible rfl
     rotate_left;·simp only [Act.put, pa_, pz_, pu_, i64_w, i32_w];rfl
     refine pure_ (i:=6) (N:=some 18) (v:=?_) (a':=?_) #[true,true,true,true,true,true,true,false,false,false,false,false,false,false,false,false] rfl rfl (any_of HT_.out (by kernel_rfl)) (fun _ _ _ h => h) (Or.inl ⟨by rfl, ?_⟩) ?_ ?_
     rotate_left;·intro w';go_simp;with_reducible rfl
     rotate_left;·simp only [Act.put, pa_, pz_, pu_, i64_w, i32_w];rfl
     refine pure_ (i:=8) (N:=some 20) (v:=?_) (a':=?_) #[true,true,true,true,true,true,true,false,true,false,false,false,false,false,false,false] rfl rfl (any_of HT_.out (by kernel_rfl)) (fun _ _ _ h => h) (Or.inl ⟨by rfl, ?_⟩) ?_ ?_
     rotate_left;·intro w';go_simp;with_reducible rfl
     rotate_left;·simp only [Act.put, pa_, pz_, pu_, i64_w, i32_w];rfl
     refine pure_ (i:=9) (N:=some 21) (v:=?_) (a':=?_) #[true,true,true,true,true,true,true,false,true,true,false,false,false,false,false,false] rfl rfl (any_of HT_.out (by kernel_rfl)) (fun _ _ _ h => h) (Or.inl ⟨by rfl, ?_⟩) ?_ ?_
     rotate_left;·intro w';go_simp;with_reducible rfl
     rotate_left;·simp only [Act.put, pa_, pz_, pu_, i64_w, i32_w];rfl
     refine pure_ (i:=10) (N:=some 22) (v:=?_) (a':=?_) #[true,true,true,true,true,true,true,false,true,true,true,false,false,false,false,false] rfl rfl (any_of HT_.out (by kernel_rfl)) (fun _ _ _ h => h) (Or.inl ⟨by rfl, ?_⟩) ?_ ?_
     rotate_left;·intro w';go_simp;with_reducible rfl
     rotate_left;·simp only [Act.put, pa_, pz_, pu_, i64_w, i32_w];rfl
     refine take_ (i:=7) (N:=some 19) (v:=?_) (a':=?_) #[true,true,true,true,true,true,true,true,true,true,true,false,false,false,false,false] rfl rfl (take_ofW HT_.out HW_.out (by kernel_rfl)) (fun _ _ _ h => h) (Or.inl ⟨by rfl, ?_⟩) hHeld ?_ ?_
     rotate_left;·rintro w' ⟨s0, s1⟩;go_simp;with_reducible rfl
     rotate_left;·simp only [Act.put, pa_, pz_, pu_, i64_w, i32_w];rfl
     refine take_ (i:=11) (N:=some 23) (v:=?_) (a':=?_) #[true,true,true,true,true,true,true,true,true,true,true,true,false,false,false,false] rfl rfl (take_ofW HT_.out HW_.out (by kernel_rfl)) (fun _ _ _ h => h) (Or.inl ⟨by rfl, ?_⟩) hHeld ?_ ?_
     rotate_left;·rintro w' ⟨s0, s1⟩;go_simp;with_reducible rfl
     rotate_left;·simp only [Act.put, pa_, pz_, pu_, i64_w, i32_w];rfl
     refine pure_ (i:=12) (N:=some 24) (v:=?_) (a':=?_) #[true,true,true,true,true,true,true,true,true,true,true,true,true,false,false,false] rfl rfl (any_of HT_.out (by kernel_rfl)) (fun _ _ _ h => h) (Or.inl ⟨by rfl, ?_⟩) ?_ ?_
     rotate_left;·intro w';go_simp;with_reducible rfl
     rotate_left;·simp only [Act.put, pa_, pz_, pu_, i64_w, i32_w];rfl
     refine last_ (i:=13) (N:=none) #[true,true,true,true,true,true,true,true,true,true,true,true,true,true,false,false] rfl rfl (one_of HT_.out (by kernel_rfl)) (by decide) (fun K hK => ?_)
     refine skip_ (w1 := ?_) (by rfl) rfl ?_ ?_
     rotate_left
     ·go_simp
      rfl
     refine hK.out _ _ ?_
     clear hK K
     refine pure_ (i:=14) (N:=some 25) (v:=?_) (a':=?_) #[true,true,true,true,true,true,true,true,true,true,true,true,true,true,true,false] rfl rfl (any_of HT_.out (by kernel_rfl)) (fun _ _ _ h => h) (Or.inl ⟨by rfl, ?_⟩) ?_ ?_
     rotate_left;·intro w';go_simp;with_reducible rfl
     rotate_left;·simp only [Act.put, pa_, pz_, pu_, i64_w, i32_w];rfl
     refine last_ (i:=15) (N:=none) #[true,true,true,true,true,true,true,true,true,true,true,true,true,true,true,true] rfl rfl (one_of HT_.out (by kernel_rfl)) (by decide) (fun K hK => ?_)
     refine skip_ (w1 := ?_) (by rfl) rfl ?_ ?_
     rotate_left
     ·go_simp
      rfl
     refine hK.out _ _ ?_
     clear hK K
     refine done_ (done_of HT_.out (by kernel_rfl)) ?_
     go_upto_block 0 with (fail)
     go_cut [10] (fun v10 wc => ∃ (kq : Nat) (x10_10 : Int), v10 = .int .i64 x10_10 ∧ Aside0 (slices_partitionOrdered_uint32.j1 kq y207 a1 x10_10 (wrap64 (a2 - 1)) = some (r1, r2, r3)) ∧ Aside0 (kq ≤ k) ∧ Aside0 (Kd.R (Kd.int .u32) 33 wc w0.heap.size (fun k_ => (P0_ k_ ∨ w.heap.size ≤ k_)) (.slice (some ⟨go9, 0, none⟩) l0.length co13) y207) ∧ Aside0 (Kept w wc (fun k_ => P0_ k_)) ∧ Aside0 (Below w0.heap.size w0 wc))
     case first =>
      have H := HC11.out
      clear HC11
      have H' := Aside0.mk H
      clear H
      go_wp2
      go_loopg [10] k (fun kq v10 w' => ∃ (x10_1 : Int), v10 = .int .i64 x10_1 ∧ Aside0 (slices_partitionOrdered_uint32.l0 kq y207 a1 x10_1 (wrap64 (a2 - 1)) = some (r1, r2, r3)) ∧ Aside0 (kq ≤ k) ∧ Aside0 (Kd.R (Kd.int .u32) 33 w' w0.heap.size (fun k_ => (P0_ k_ ∨ w.heap.size ≤ k_)) (.slice (some ⟨go9, 0, none⟩) l0.length co13) y207) ∧ Aside0 (Kept w w' (fun k_ => P0_ k_)) ∧ Aside0 (Below w0.heap.size w0 w'))
      case atStart => exact ⟨(wrap64 (a1 + 1)), (by first | rfl | (simp; done) | (simp [*]; done)), H', ⟨Nat.le_refl _⟩, ⟨by (with_reducible repeat (first | apply Kd.R_alloc | apply Kd.R_drewN | apply Kd.R_drew)); exact HQ15.out⟩, ⟨by repeat (first | (with_reducible first | exact HK.out | apply Kept.alloc | apply Kept.drewN | apply Kept.drew | refine Kept.setCell ?_ HMgo9.out _ | refine Kept.setCell ?_ HMgo9.out _) | exact HK.out)⟩, ⟨by repeat (first | (with_reducible first | exact HB.out | apply below_alloc | apply pw_below_drewN | apply below_drew1 | refine below_set ?_ GB9.out | refine below_set ?_ GB9.out) | exact HB.out)⟩⟩
      case round =>
       clear H'
       try clear p1
       try clear q1
       try clear hx1
       try clear p2
       try clear q2
       try clear hx2
       try clear c5
       try clear c5b0
       try clear c6
       try clear c6b0
       try clear p6
       try clear c7
       try clear c7b0
       try clear c8
       try clear c8b0
       try clear p9
       try clear q9
       try clear hx9
       try clear hf9
       try clear p10
       try clear q10
       try clear hx10
       try clear hf10
       try clear hx10_0
       try clear hx204_0
       try clear hx205_0
       try clear hx9_0
       try clear p10
       try clear p204
       try clear p205
       try clear p9
       try clear q10
       try clear q204
       try clear q205
       try clear q9
       obtain ⟨x10_1, rfl, HA, HK1, HO_0, HK, HB⟩ := hrel
       have hl0_1 := (Kd.R_reads' HO_0.out).1
       rw [hl0_1] at HO_0
       (try simp only [hl0_1])
       cases gk with
       | zero => exact absurd HA.out (by simp [slices_partitionOrdered_uint32.l0])
       | succ k1 =>
        have H := HA.out
        clear HA
        simp only [slices_partitionOrdered_uint32.l0] at H
        by_cases c16 : x10_1 ≤ (wrap64 (a2 - 1))
        ·rw [if_pos c16] at H
         have c16b0 : decide (x10_1 ≤ (wrap64 (a2 - 1))) = true := decide_eq_true c16
         clear c16
         (first | rw [c16b0] | (simp only [i64_w, i32_w]; rw [c16b0]) | skip)
         by_cases c17 : 0 ≤ x10_1
         ·rw [if_pos c17] at H
          have c17b0 : decide (0 ≤ x10_1) = true := decide_eq_true c17
          clear c17
          by_cases c18 : x10_1 < (y207.length : Int)
          ·rw [if_pos c18] at H
           have c18b0 : decide (x10_1 < (y207.length : Int)) = true := decide_eq_true c18
           clear c18
           by_cases c19 : 0 ≤ a1
           ·rw [if_pos c19] at H
            have c19b0 : decide (0 ≤ a1) = true := decide_eq_true c19
            clear c19
            by_cases c20 : a1 < (y207.length : Int)
            ·rw [if_pos c20] at H
             have c20b0 : decide (a1 < (y207.length : Int)) = true := decide_eq_true c20
             clear c20
             replace H := Option.bind_eq_some_iff.mp H
             obtain ⟨t210, A210, H⟩ := H
             replace H : (if t210 = true then (slices_partitionOrdered_uint32.l0 k1 y207 a1 (wrap64 (x10_1 + 1)) (wrap64 (a2 - 1))) else (slices_partitionOrdered_uint32.j1 k1 y207 a1 x10_1 (wrap64 (a2 - 1)))) = some (r1, r2, r3) := H
             have A21 := Aside0.mk A210
             clear A210
             by_cases c22 : t210 = true
             ·subst c22
              have H1 : (slices_partitionOrdered_uint32.l0 k1 y207 a1 (wrap64 (x10_1 + 1)) (wrap64 (a2 - 1))) = some (r1, r2, r3) := by rw [if_pos rfl] at H; exact H
              clear H
              have H := H1
              clear H1
              have H' := Aside0.mk H
              clear H
              try go_wp2
              have n0_ := Aside0.mk (Kd.R_drew HO_0.out)
              have n1_ := Aside0.mk (Kept.drew HK.out)
              have n2_ := Aside0.mk (below_drew1 HB.out)
              clear HO_0
              clear HK
              clear HB
              have HO_0 := n0_
              have HK := n1_
              have HB := n2_
              clear n0_ n1_ n2_
              have p208 : 0 ≤ (x10_1 : Int) := of_decide_eq_true (by first | (with_reducible assumption) | assumption)
              have q208 : x10_1 < (y207.length : Int) := of_decide_eq_true (by first | (with_reducible assumption) | assumption)
              obtain ⟨ad208, e208, hx208_0⟩ := Kd.at_int (Kd.R_reads' HO_0.out).2.2 x10_1 p208 q208
              obtain rfl : (⟨go9, 0, none⟩ : Addr) = ad208 := (by injection e208)
              (first | simp only [add_plain] at hx208_0 | simp only [add_at] at hx208_0 | simp only [Addr.add, Nat.zero_add] at hx208_0 | skip)
              replace p208 := eq_true p208
              replace q208 := eq_true q208
              have p209 : 0 ≤ (a1 : Int) := of_decide_eq_true (by first | (with_reducible assumption) | assumption)
              have q209 : a1 < (y207.length : Int) := of_decide_eq_true (by first | (with_reducible assumption) | assumption)
              obtain ⟨ad209, e209, hx209_0⟩ := Kd.at_int (Kd.R_reads' HO_0.out).2.2 a1 p209 q209
              obtain rfl : (⟨go9, 0, none⟩ : Addr) = ad209 := (by injection e209)
              (first | simp only [add_plain] at hx209_0 | simp only [add_at] at hx209_0 | simp only [Addr.add, Nat.zero_add] at hx209_0 | skip)
              replace p209 := eq_true p209
              replace q209 := eq_true q209
              refine start_ (n:=14) (S := fun w' => w'.cell? ⟨go9, (x10_1).toNat, none⟩ = some (.int .u32 (rd y207 x10_1)) ∧ w'.cell? ⟨go9, (a1).toNat, none⟩ = some (.int .u32 (rd y207 a1))) (ds := []) #[false,false,false,false,false,false,false,false,false,false,false,false,false,false] (by kernel_rfl) rfl rfl ⟨hx208_0, hx209_0⟩ (fun hHeld => ?_); refine with_tabW slices_partitionOrdered_uint32.tab3 slices_partitionOrdered_uint32.bits3 (fun HT_ HW_ => ?_)
              generalize wr.drew = w23 at HO_0 HK HB hx208_0 hx209_0 hHeld ⊢
              refine pure_ (i:=0) (N:=some 30) (v:=?_) (a':=?_) #[true,false,false,false,false,false,false,false,false,false,false,false,false,false] rfl rfl (any_of HT_.out (by kernel_rfl)) (fun _ _ _ h => h) (Or.inl ⟨by rfl, ?_⟩) ?_ ?_
              rotate_left;·intro w';go_simp;with_reducible rfl
              rotate_left;·simp only [Act.put, pa_, pz_, pu_, i64_w, i32_w];rfl
              refine pure_ (i:=1) (N:=some 31) (v:=?_) (a':=?_) #[true,true,false,false,false,false,false,false,false,false,false,false,false,false] rfl rfl (any_of HT_.out (by kernel_rfl)) (fun _ _ _ h => h) (Or.inl ⟨by rfl, ?_⟩) ?_ ?_
              rotate_left;·intro w';go_simp;with_reducible rfl
              rotate_left;·simp only [Act.put, pa_, pz_, pu_, i64_w, i32_w];rfl
              refine pure_ (i:=2) (N:=some 32) (v:=?_) (a':=?_) #[true,true,true,false,false,false,false,false,false,false,false,false,false,false] rfl rfl (any_of HT_.out (by kernel_rfl)) (fun _ _ _ h => h) (Or.inl ⟨by rfl, ?_⟩) ?_ ?_
              rotate_left;·intro w';go_simp;with_reducible rfl
              rotate_left;·simp only [Act.put, pa_, pz_, pu_, i64_w, i32_w];rfl
              refine pure_ (i:=3) (N:=some 33) (v:=?_) (a':=?_) #[true,true,true,true,false,false,false,false,false,false,false,false,false,false] rfl rfl (any_of HT_.out (by kernel_rfl)) (fun _ _ _ h => h) (Or.inl ⟨by rfl, ?_⟩) ?_ ?_
              rotate_left;·intro w';go_simp;with_reducible rfl
              rotate_left;·simp only [Act.put, pa_, pz_, pu_, i64_w, i32_w];rfl
              refine pure_ (i:=4) (N:=some 34) (v:=?_) (a':=?_) #[true,true,true,true,true,false,false,false,false,false,false,false,false,false] rfl rfl (any_of HT_.out (by kernel_rfl)) (fun _ _ _ h => h) (Or.inl ⟨by rfl, ?_⟩) ?_ ?_
              rotate_left;·intro w';go_simp;with_reducible rfl
              rotate_left;·simp only [Act.put, pa_, pz_, pu_, i64_w, i32_w];rfl
              refine pure_ (i:=5) (N:=some 35) (v:=?_) (a':=?_) #[true,true,true,true,true,true,false,false,false,false,false,false,false,false] rfl rfl (any_of HT_.out (by kernel_rfl)) (fun _ _ _ h => h) (Or.inl ⟨by rfl, ?_⟩) ?_ ?_
              rotate_left;·intro w';go_simp;with_reducible rfl
              rotate_left;·simp only [Act.put, pa_, pz_, pu_, i64_w, i32_w];rfl
              refine pure_ (i:=6) (N:=some 36) (v:=?_) (a':=?_) #[true,true,true,true,true,true,true,false,false,false,false,false,false,false] rfl rfl (any_of HT_.out (by kernel_rfl)) (fun _ _ _ h => h) (Or.inl ⟨by rfl, ?_⟩) ?_ ?_
              rotate_left;·intro w';go_simp;with_reducible rfl
              rotate_left;·simp only [Act.put, pa_, pz_, pu_, i64_w, i32_w];rfl
              refine pure_ (i:=8) (N:=some 38) (v:=?_) (a':=?_) #[true,true,true,true,true,true,true,false,true,false,false,false,false,false] rfl rfl (any_of HT_.out (by kernel_rfl)) (fun _ _ _ h => h) (Or.inl ⟨by rfl, ?_⟩) ?_ ?_
              rotate_left;·intro w';go_simp;with_reducible rfl
              rotate_left;·simp only [Act.put, pa_, pz_, pu_, i64_w, i32_w];rfl
              refine pure_ (i:=9) (N:=some 39) (v:=?_) (a':=?_) #[true,true,true,true,true,true,true,false,true,true,false,false,false,false] rfl rfl (any_of HT_.out (by kernel_rfl)) (fun _ _ _ h => h) (Or.inl ⟨by rfl, ?_⟩) ?_ ?_
              rotate_left;·intro w';go_simp;with_reducible rfl
              rotate_left;·simp only [Act.put, pa_, pz_, pu_, i64_w, i32_w];rfl
              refine pure_ (i:=10) (N:=some 40) (v:=?_) (a':=?_) #[true,true,true,true,true,true,true,false,true,true,true,false,false,false] rfl rfl (any_of HT_.out (by kernel_rfl)) (fun _ _ _ h => h) (Or.inl ⟨by rfl, ?_⟩) ?_ ?_
              rotate_left;·intro w';go_simp;with_reducible rfl
              rotate_left;·simp only [Act.put, pa_, pz_, pu_, i64_w, i32_w];rfl
              refine take_ (i:=7) (N:=some 37) (v:=?_) (a':=?_) #[true,true,true,true,true,true,true,true,true,true,true,false,false,false] rfl rfl (take_ofW HT_.out HW_.out (by kernel_rfl)) (fun _ _ _ h => h) (Or.inl ⟨by rfl, ?_⟩) hHeld ?_ ?_
              rotate_left;·rintro w' ⟨s0, s1⟩;go_simp;with_reducible rfl
              rotate_left;·simp only [Act.put, pa_, pz_, pu_, i64_w, i32_w];rfl
              refine take_ (i:=11) (N:=some 41) (v:=?_) (a':=?_) #[true,true,true,true,true,true,true,true,true,true,true,true,false,false] rfl rfl (take_ofW HT_.out HW_.out (by kernel_rfl)) (fun _ _ _ h => h) (Or.inl ⟨by rfl, ?_⟩) hHeld ?_ ?_
              rotate_left;·rintro w' ⟨s0, s1⟩;go_simp;with_reducible rfl
              rotate_left;·simp only [Act.put, pa_, pz_, pu_, i64_w, i32_w];rfl
              refine one_ (i:=12) (N:=some 42) #[true,true,true,true,true,true,true,true,true,true,true,true,true,false] rfl rfl (one_of HT_.out (by kernel_rfl)) (by decide) (fun K hK => ?_)
              refine goes_ Tryd.func57 (by kernel_rfl) rfl #[.int .u32 (rd y207 x10_1), .int .u32 (rd y207 a1)] (by rfl) rfl rfl (by (try simp only [List.map_toArray, List.map_cons, List.map_nil]); first | done | rfl | (simp only [List.length_drop, List.length_take]; rfl)) ?_
              with_reducible refine (cmp_Less_uint32.calls (rd y207 x10_1) (rd y207 a1) true _ A21.out).mono ?_
              rintro e w' ⟨rfl, ⟨nd, rfl⟩⟩
              refine ⟨_, rfl, ?_⟩
              refine hK.out _ _ ⟨hHeld.1, hHeld.2⟩ (fun hHeld => ?_)
              clear hK K
              refine norm_ (a' := ?_) ?_ ?_
              rotate_left
              ·show Act.put _ (some 42) _ = _
               simp only [Act.put, List.setIfInBounds_toArray, List.set_cons_zero, List.set_cons_succ, i64_w, i32_w]
               rfl
              refine pure_ (i:=13) (N:=some 43) (v:=?_) (a':=?_) #[true,true,true,true,true,true,true,true,true,true,true,true,true,true] rfl rfl (any_of HT_.out (by kernel_rfl)) (fun _ _ _ h => h) (Or.inl ⟨by rfl, ?_⟩) ?_ ?_
              rotate_left;·intro w';go_simp;with_reducible rfl
              rotate_left;·simp only [Act.put, pa_, pz_, pu_, i64_w, i32_w];rfl
              refine done_ (done_of HT_.out (by kernel_rfl)) ?_
              try go_wp2
              (try simp only [← hl0_1])
              go_roundg k1
              case measure => have := HK1.out; omega
              case rel => exact ⟨(wrap64 (x10_1 + 1)), (by first | rfl | (simp; done) | (simp [*]; done)), H', ⟨by have := HK1.out; omega⟩, ⟨by (try simp only [hl0_1]); (with_reducible repeat (first | apply Kd.R_alloc | apply Kd.R_drewN | apply Kd.R_drew)); exact HO_0.out⟩, ⟨by repeat (first | (with_reducible first | exact HK.out | apply Kept.alloc | apply Kept.drewN | apply Kept.drew) | exact HK.out)⟩, ⟨by repeat (first | (with_reducible first | exact HB.out | apply below_alloc | apply pw_below_drewN | apply below_drew1) | exact HB.out)⟩⟩
             ·replace c22 := Bool.eq_false_iff.mpr c22
              subst c22
              have H1 : (slices_partitionOrdered_uint32.j1 k1 y207 a1 x10_1 (wrap64 (a2 - 1))) = some (r1, r2, r3) := by rw [if_neg (show ¬ (false = true) by decide)] at H; exact H
              clear H
              have H := H1
              clear H1
              have H' := Aside0.mk H
              clear H
              try go_wp2
              have n0_ := Aside0.mk (Kd.R_drew HO_0.out)
              have n1_ := Aside0.mk (Kept.drew HK.out)
              have n2_ := Aside0.mk (below_drew1 HB.out)
              clear HO_0
              clear HK
              clear HB
              have HO_0 := n0_
              have HK := n1_
              have HB := n2_
              clear n0_ n1_ n2_
              have p208 : 0 ≤ (x10_1 : Int) := of_decide_eq_true (by first | (with_reducible assumption) | assumption)
              have q208 : x10_1 < (y207.length : Int) := of_decide_eq_true (by first | (with_reducible assumption) | assumption)
              obtain ⟨ad208, e208, hx208_0⟩ := Kd.at_int (Kd.R_reads' HO_0.out).2.2 x10_1 p208 q208
              obtain rfl : (⟨go9, 0, none⟩ : Addr) = ad208 := (by injection e208)
              (first | simp only [add_plain] at hx208_0 | simp only [add_at] at hx208_0 | simp only [Addr.add, Nat.zero_add] at hx208_0 | skip)
              replace p208 := eq_true p208
              replace q208 := eq_true q208
              have p209 : 0 ≤ (a1 : Int) := of_decide_eq_true (by first | (with_reducible assumption) | assumption)
              have q209 : a1 < (y207.length : Int) := of_decide_eq_true (by first | (with_reducible assumption) | assumption)
              obtain ⟨ad209, e209, hx209_0⟩ := Kd.at_int (Kd.R_reads' HO_0.out).2.2 a1 p209 q209
              obtain rfl : (⟨go9, 0, none⟩ : Addr) = ad209 := (by injection e209)
              (first | simp only [add_plain] at hx209_0 | simp only [add_at] at hx209_0 | simp only [Addr.add, Nat.zero_add] at hx209_0 | skip)
              replace p209 := eq_true p209
              replace q209 := eq_true q209
              refine start_ (n:=14) (S := fun w' => w'.cell? ⟨go9, (x10_1).toNat, none⟩ = some (.int .u32 (rd y207 x10_1)) ∧ w'.cell? ⟨go9, (a1).toNat, none⟩ = some (.int .u32 (rd y207 a1))) (ds := []) #[false,false,false,false,false,false,false,false,false,false,false,false,false,false] (by kernel_rfl) rfl rfl ⟨hx208_0, hx209_0⟩ (fun hHeld => ?_); refine with_tabW slices_partitionOrdered_uint32.tab3 slices_partitionOrdered_uint32.bits3 (fun HT_ HW_ => ?_)
              generalize wr.drew = w24 at HO_0 HK HB hx208_0 hx209_0 hHeld ⊢
              refine pure_ (i:=0) (N:=some 30) (v:=?_) (a':=?_) #[true,false,false,false,false,false,false,false,false,false,false,false,false,false] rfl rfl (any_of HT_.out (by kernel_rfl)) (fun _ _ _ h => h) (Or.inl ⟨by rfl, ?_⟩) ?_ ?_
              rotate_left;·intro w';go_simp;with_reducible rfl
              rotate_left;·simp only [Act.put, pa_, pz_, pu_, i64_w, i32_w];rfl
              refine pure_ (i:=1) (N:=some 31) (v:=?_) (a':=?_) #[true,true,false,false,false,false,false,false,false,false,false,false,false,false] rfl rfl (any_of HT_.out (by kernel_rfl)) (fun _ _ _ h => h) (Or.inl ⟨by rfl, ?_⟩) ?_ ?_
              rotate_left;·intro w';go_simp;with_reducible rfl
              rotate_left;·simp only [Act.put, pa_, pz_, pu_, i64_w, i32_w];rfl
              refine pure_ (i:=2) (N:=some 32) (v:=?_) (a':=?_) #[true,true,true,false,false,false,false,false,false,false,false,false,false,false] rfl rfl (any_of HT_.out (by kernel_rfl)) (fun _ _ _ h => h) (Or.inl ⟨by rfl, ?_⟩) ?_ ?_
              rotate_left;·intro w';go_simp;with_reducible rfl
              rotate_left;·simp only [Act.put, pa_, pz_, pu_, i64_w, i32_w];rfl
              refine pure_ (i:=3) (N:=some 33) (v:=?_) (a':=?_) #[true,true,true,true,false,false,false,false,false,false,false,false,false,false] rfl rfl (any_of HT_.out (by kernel_rfl)) (fun _ _ _ h => h) (Or.inl ⟨by rfl, ?_⟩) ?_ ?_
              rotate_left;·intro w';go_simp;with_reducible rfl
              rotate_left;·simp only [Act.put, pa_, pz_, pu_, i64_w, i32_w];rfl
              refine pure_ (i:=4) (N:=some 34) (v:=?_) (a':=?_) #[true,true,true,true,true,false,false,false,false,false,false,false,false,false] rfl rfl (any_of HT_.out (by kernel_rfl)) (fun _ _ _ h => h) (Or.inl ⟨by rfl, ?_⟩) ?_ ?_
              rotate_left;·intro w';go_simp;with_reducible rfl
              rotate_left;·simp only [Act.put, pa_, pz_, pu_, i64_w, i32_w];rfl
              refine pure_ (i:=5) (N:=some 35) (v:=?_) (a':=?_) #[true,true,true,true,true,true,false,false,false,false,false,false,false,false] rfl rfl (any_of HT_.out (by kernel_rfl)) (fun _ _ _ h => h) (Or.inl ⟨by rfl, ?_⟩) ?_ ?_
              rotate_left;·intro w';go_simp;with_reducible rfl
              rotate_left;·simp only [Act.put, pa_, pz_, pu_, i64_w, i32_w];rfl
              refine pure_ (i:=6) (N:=some 36) (v:=?_) (a':=?_) #[true,true,true,true,true,true,true,false,false,false,false,false,false,false] rfl rfl (any_of HT_.out (by kernel_rfl)) (fun _ _ _ h => h) (Or.inl ⟨by rfl, ?_⟩) ?_ ?_
              rotate_left;·intro w';go_simp;with_reducible rfl
              rotate_left;·simp only [Act.put, pa_, pz_, pu_, i64_w, i32_w];rfl
              refine pure_ (i:=8) (N:=some 38) (v:=?_) (a':=?_) #[true,true,true,true,true,true,true,false,true,false,false,false,false,false] rfl rfl (any_of HT_.out (by kernel_rfl)) (fun _ _ _ h => h) (Or.inl ⟨by rfl, ?_⟩) ?_ ?_
              rotate_left;·intro w';go_simp;with_reducible rfl
              rotate_left;·simp only [Act.put, pa_, pz_, pu_, i64_w, i32_w];rfl
              refine pure_ (i:=9) (N:=some 39) (v:=?_) (a':=?_) #[true,true,true,true,true,true,true,false,true,true,false,false,false,false] rfl rfl (any_of HT_.out (by kernel_rfl)) (fun _ _ _ h => h) (Or.inl ⟨by rfl, ?_⟩) ?_ ?_
              rotate_left;·intro w';go_simp;with_reducible rfl
              rotate_left;·simp only [Act.put, pa_, pz_, pu_, i64_w, i32_w];rfl
              refine pure_ (i:=10) (N:=some 40) (v:=?_) (a':=?_) #[true,true,true,true,true,true,true,false,true,true,true,false,false,false] rfl rfl (any_of HT_.out (by kernel_rfl)) (fun _ _ _ h => h) (Or.inl ⟨by rfl, ?_⟩) ?_ ?_
              rotate_left;·intro w';go_simp;with_reducible rfl
              rotate_left;·simp only [Act.put, pa_, pz_, pu_, i64_w, i32_w];rfl
              refine take_ (i:=7) (N:=some 37) (v:=?_) (a':=?_) #[true,true,true,true,true,true,true,true,true,true,true,false,false,false] rfl rfl (take_ofW HT_.out HW_.out (by kernel_rfl)) (fun _ _ _ h => h) (Or.inl ⟨by rfl, ?_⟩) hHeld ?_ ?_
              rotate_left;·rintro w' ⟨s0, s1⟩;go_simp;with_reducible rfl
              rotate_left;·simp only [Act.put, pa_, pz_, pu_, i64_w, i32_w];rfl
              refine take_ (i:=11) (N:=some 41) (v:=?_) (a':=?_) #[true,true,true,true,true,true,true,true,true,true,true,true,false,false] rfl rfl (take_ofW HT_.out HW_.out (by kernel_rfl)) (fun _ _ _ h => h) (Or.inl ⟨by rfl, ?_⟩) hHeld ?_ ?_
              rotate_left;·rintro w' ⟨s0, s1⟩;go_simp;with_reducible rfl
              rotate_left;·simp only [Act.put, pa_, pz_, pu_, i64_w, i32_w];rfl
              refine one_ (i:=12) (N:=some 42) #[true,true,true,true,true,true,true,true,true,true,true,true,true,false] rfl rfl (one_of HT_.out (by kernel_rfl)) (by decide) (fun K hK => ?_)
              refine goes_ Tryd.func57 (by kernel_rfl) rfl #[.int .u32 (rd y207 x10_1), .int .u32 (rd y207 a1)] (by rfl) rfl rfl (by (try simp only [List.map_toArray, List.map_cons, List.map_nil]); first | done | rfl | (simp only [List.length_drop, List.length_take]; rfl)) ?_
              with_reducible refine (cmp_Less_uint32.calls (rd y207 x10_1) (rd y207 a1) false _ A21.out).mono ?_
              rintro e w' ⟨rfl, ⟨nd, rfl⟩⟩
              refine ⟨_, rfl, ?_⟩
              refine hK.out _ _ ⟨hHeld.1, hHeld.2⟩ (fun hHeld => ?_)
              clear hK K
              refine norm_ (a' := ?_) ?_ ?_
              rotate_left
              ·show Act.put _ (some 42) _ = _
               simp only [Act.put, List.setIfInBounds_toArray, List.set_cons_zero, List.set_cons_succ, i64_w, i32_w]
               rfl
              refine pure_ (i:=13) (N:=some 43) (v:=?_) (a':=?_) #[true,true,true,true,true,true,true,true,true,true,true,true,true,true] rfl rfl (any_of HT_.out (by kernel_rfl)) (fun _ _ _ h => h) (Or.inl ⟨by rfl, ?_⟩) ?_ ?_
              rotate_left;·intro w';go_simp;with_reducible rfl
              rotate_left;·simp only [Act.put, pa_, pz_, pu_, i64_w, i32_w];rfl
              refine done_ (done_of HT_.out (by kernel_rfl)) ?_
              try go_wp2
              (try simp only [← hl0_1])
              go_meet
              case rel => exact ⟨_, (x10_1), (by first | rfl | (simp; done) | (simp [*]; done)), H', ⟨by have := HK1.out; first | omega | exact Nat.le_refl _⟩, ⟨by (try simp only [hl0_1]); (with_reducible repeat (first | apply Kd.R_alloc | apply Kd.R_drewN | apply Kd.R_drew)); exact HO_0.out⟩, ⟨by repeat (first | (with_reducible first | exact HK.out | apply Kept.alloc | apply Kept.drewN | apply Kept.drew) | exact HK.out)⟩, ⟨by repeat (first | (with_reducible first | exact HB.out | apply below_alloc | apply pw_below_drewN | apply below_drew1) | exact HB.out)⟩⟩
            ·rw [if_neg c20] at H
             exact absurd H (by simp)
           ·rw [if_neg c19] at H
            exact absurd H (by simp)
          ·rw [if_neg c18] at H
           exact absurd H (by simp)
         ·rw [if_neg c17] at H
          exact absurd H (by simp)
        ·rw [if_neg c16] at H
         have c16b0 : decide (x10_1 ≤ (wrap64 (a2 - 1))) = false := decide_eq_false c16
         clear c16
         (first | rw [c16b0] | (simp only [i64_w, i32_w]; rw [c16b0]) | skip)
         have H' := Aside0.mk H
         clear H
         try go_wp2
         have n0_ := Aside0.mk (Kd.R_drew HO_0.out)
         have n1_ := Aside0.mk (Kept.drew HK.out)
         have n2_ := Aside0.mk (below_drew1 HB.out)
         clear HO_0
         clear HK
         clear HB
         have HO_0 := n0_
         have HK := n1_
         have HB := n2_
         clear n0_ n1_ n2_
         refine start_ (n:=14) (S := fun w' => True) (ds := []) #[false,false,false,false,false,false,false,false,false,false,false,false,false,false] (by kernel_rfl) rfl rfl trivial (fun hHeld => ?_); refine with_tabW slices_partitionOrdered_uint32.tab3 slices_partitionOrdered_uint32.bits3 (fun HT_ HW_ => ?_)
         generalize wr.drew = w25 at HO_0 HK HB hHeld ⊢
         refine pure_ (i:=0) (N:=some 30) (v:=?_) (a':=?_) #[true,false,false,false,false,false,false,false,false,false,false,false,false,false] rfl rfl (any_of HT_.out (by kernel_rfl)) (fun _ _ _ h => h) (Or.inl ⟨by rfl, ?_⟩) ?_ ?_
         rotate_left;·intro w';go_simp;with_reducible rfl
         rotate_left;·simp only [Act.put, pa_, pz_, pu_, i64_w, i32_w];rfl
         refine pure_ (i:=1) (N:=some 31) (v:=?_) (a':=?_) #[true,true,false,false,false,false,false,false,false,false,false,false,false,false] rfl rfl (any_of HT_.out (by kernel_rfl)) (fun _ _ _ h => h) (Or.inl ⟨by rfl, ?_⟩) ?_ ?_
         rotate_left;·intro w';go_simp;with_reducible rfl
         rotate_left;·simp only [Act.put, pa_, pz_, pu_, i64_w, i32_w];rfl
         refine pure_ (i:=2) (N:=some 32) (v:=?_) (a':=?_) #[true,true,true,false,false,false,false,false,false,false,false,false,false,false] rfl rfl (any_of HT_.out (by kernel_rfl)) (fun _ _ _ h => h) (Or.inl ⟨by rfl, ?_⟩) ?_ ?_
         rotate_left;·intro w';go_simp;with_reducible rfl
         rotate_left;·simp only [Act.put, pa_, pz_, pu_, i64_w, i32_w];rfl
         refine pure_ (i:=3) (N:=some 33) (v:=?_) (a':=?_) #[true,true,true,true,false,false,false,false,false,false,false,false,false,false] rfl rfl (any_of HT_.out (by kernel_rfl)) (fun _ _ _ h => h) (Or.inl ⟨by rfl, ?_⟩) ?_ ?_
         rotate_left;·intro w';go_simp;with_reducible rfl
         rotate_left;·simp only [Act.put, pa_, pz_, pu_, i64_w, i32_w];rfl
         refine pure_ (i:=4) (N:=some 34) (v := undef) (a' := ?_) #[true,true,true,true,true,false,false,false,false,false,false,false,false,false] rfl rfl (any_of HT_.out (by kernel_rfl)) (fun _ _ _ h => h) (Or.inr ⟨by rfl, rfl⟩) ?_ ?_
         rotate_left;·simp only [Act.put, pa_, pz_, pu_, i64_w, i32_w];rfl
         refine pure_ (i:=5) (N:=some 35) (v := undef) (a' := ?_) #[true,true,true,true,true,true,false,false,false,false,false,false,false,false] rfl rfl (any_of HT_.out (by kernel_rfl)) (fun _ _ _ h => h) (Or.inr ⟨by rfl, rfl⟩) ?_ ?_
         rotate_left;·simp only [Act.put, pa_, pz_, pu_, i64_w, i32_w];rfl
         refine pure_ (i:=6) (N:=some 36) (v := undef) (a' := ?_) #[true,true,true,true,true,true,true,false,false,false,false,false,false,false] rfl rfl (any_of HT_.out (by kernel_rfl)) (fun _ _ _ h => h) (Or.inr ⟨by rfl, rfl⟩) ?_ ?_
         rotate_left;·simp only [Act.put, pa_, pz_, pu_, i64_w, i32_w];rfl
         refine pure_ (i:=7) (N:=some 37) (v := undef) (a' := ?_) #[true,true,true,true,true,true,true,true,false,false,false,false,false,false] rfl rfl (any_of HT_.out (by kernel_rfl)) (fun _ _ _ h => h) (Or.inr ⟨by rfl, rfl⟩) ?_ ?_
         rotate_left;·simp only [Act.put, pa_, pz_, pu_, i64_w, i32_w];rfl
         refine pure_ (i:=8) (N:=some 38) (v := undef) (a' := ?_) #[true,true,true,true,true,true,true,true,true,false,false,false,false,false] rfl rfl (any_of HT_.out (by kernel_rfl)) (fun _ _ _ h => h) (Or.inr ⟨by rfl, rfl⟩) ?_ ?_
         rotate_left;·simp only [Act.put, pa_, pz_, pu_, i64_w, i32_w];rfl
         refine pure_ (i:=9) (N:=some 39) (v := undef) (a' := ?_) #[true,true,true,true,true,true,true,true,true,true,false,false,false,false] rfl rfl (any_of HT_.out (by kernel_rfl)) (fun _ _ _ h => h) (Or.inr ⟨by rfl, rfl⟩) ?_ ?_
         rotate_left;·simp only [Act.put, pa_, pz_, pu_, i64_w, i32_w];rfl
         refine pure_ (i:=10) (N:=some 40) (v := undef) (a' := ?_) #[true,true,true,true,true,true,true,true,true,true,true,false,false,false] rfl rfl (any_of HT_.out (by kernel_rfl)) (fun _ _ _ h => h) (Or.inr ⟨by rfl, rfl⟩) ?_ ?_
         rotate_left;·simp only [Act.put, pa_, pz_, pu_, i64_w, i32_w];rfl
         refine pure_ (i:=11) (N:=some 41) (v := undef) (a' := ?_) #[true,true,true,true,true,true,true,true,true,true,true,true,false,false] rfl rfl (any_of HT_.out (by kernel_rfl)) (fun _ _ _ h => h) (Or.inr ⟨by rfl, rfl⟩) ?_ ?_
         rotate_left;·simp only [Act.put, pa_, pz_, pu_, i64_w, i32_w];rfl
         refine pure_ (i:=12) (N:=some 42) (v := undef) (a' := ?_) #[true,true,true,true,true,true,true,true,true,true,true,true,true,false] rfl rfl (any_of HT_.out (by kernel_rfl)) (fun _ _ _ h => h) (Or.inr ⟨by rfl, rfl⟩) ?_ ?_
         rotate_left;·simp only [Act.put, pa_, pz_, pu_, i64_w, i32_w];rfl
         refine pure_ (i:=13) (N:=some 43) (v:=?_) (a':=?_) #[true,true,true,true,true,true,true,true,true,true,true,true,true,true] rfl rfl (any_of HT_.out (by kernel_rfl)) (fun _ _ _ h => h) (Or.inl ⟨by rfl, ?_⟩) ?_ ?_
         rotate_left;·intro w';go_simp;with_reducible rfl
         rotate_left;·simp only [Act.put, pa_, pz_, pu_, i64_w, i32_w];rfl
         refine done_ (done_of HT_.out (by kernel_rfl)) ?_
         try go_wp2
         (try simp only [← hl0_1])
         go_meet
         case rel => exact ⟨_, (x10_1), (by first | rfl | (simp; done) | (simp [*]; done)), H', ⟨by have := HK1.out; first | omega | exact Nat.le_refl _⟩, ⟨by (try simp only [hl0_1]); (with_reducible repeat (first | apply Kd.R_alloc | apply Kd.R_drewN | apply Kd.R_drew)); exact HO_0.out⟩, ⟨by repeat (first | (with_reducible first | exact HK.out | apply Kept.alloc | apply Kept.drewN | apply Kept.drew) | exact HK.out)⟩, ⟨by repeat (first | (with_reducible first | exact HB.out | apply below_alloc | apply pw_below_drewN | apply below_drew1) | exact HB.out)⟩⟩
     case rest =>
      clear HC11
      try clear c1
      try clear p1
      try clear q1
      try clear hx1
      try clear c2
      try clear p2
      try clear q2
      try clear hx2
      try clear c5
      try clear c5b0
      try clear c6
      try clear c6b0
      try clear p6
      try clear c7
      try clear c7b0
      try clear c8
      try clear c8b0
      try clear p9
      try clear q9
      try clear hx9
      try clear hf9
      try clear p10
      try clear q10
      try clear hx10
      try clear hf10
      try clear c16
      try clear c16b0
      try clear c17
      try clear c17b0
      try clear c18
      try clear c18b0
      try clear c19
      try clear c19b0
      try clear c20
      try clear c20b0
      try clear p20
      try clear q20
      try clear hx20
      try clear c22
      try clear hx10_0
      try clear hx204_0
      try clear hx205_0
      try clear hx208_0
      try clear hx209_0
      try clear hx9_0
      try clear p1
      try clear p10
      try clear p2
      try clear p204
      try clear p205
      try clear p208
      try clear p209
      try clear p6
      try clear p9
      try clear q1
      try clear q10
      try clear q2
      try clear q204
      try clear q205
      try clear q208
      try clear q209
      try clear q9
      obtain ⟨kq, x10_10, rfl, HA, HJ10, HO_0, HK, HB⟩ := hcut
      have hl0_10 := (Kd.R_reads' HO_0.out).1
      rw [hl0_10] at HO_0
      (try simp only [hl0_10])
      cases kq with
      | zero => exact absurd HA.out (by simp [slices_partitionOrdered_uint32.j1])
      | succ kj10 =>
       have H := HA.out
       clear HA
       simp only [slices_partitionOrdered_uint32.j1] at H
       have HC26 := Aside0.mk H
       clear H
       go_upto_block 2 with (fail)
       go_cut [11] (fun v11 wc => ∃ (kq : Nat) (x11_25 : Int), v11 = .int .i64 x11_25 ∧ Aside0 (slices_partitionOrdered_uint32.j3 kq y207 a1 x10_10 x11_25 = some (r1, r2, r3)) ∧ Aside0 (kq ≤ kj10) ∧ Aside0 (Kd.R (Kd.int .u32) 33 wc w0.heap.size (fun k_ => (P0_ k_ ∨ w.heap.size ≤ k_)) (.slice (some ⟨go9, 0, none⟩) y207.length co13) y207) ∧ Aside0 (Kept w wc (fun k_ => P0_ k_)) ∧ Aside0 (Below w0.heap.size w0 wc))
       case first =>
        have H := HC26.out
        clear HC26
        have H' := Aside0.mk H
        clear H
        go_wp2
        go_loopg [11] kj10 (fun kq v11 w' => ∃ (x11_2 : Int), v11 = .int .i64 x11_2 ∧ Aside0 (slices_partitionOrdered_uint32.l1 kq y207 a1 x10_10 x11_2 = some (r1, r2, r3)) ∧ Aside0 (kq ≤ kj10) ∧ Aside0 (Kd.R (Kd.int .u32) 33 w' w0.heap.size (fun k_ => (P0_ k_ ∨ w.heap.size ≤ k_)) (.slice (some ⟨go9, 0, none⟩) y207.length co13) y207) ∧ Aside0 (Kept w w' (fun k_ => P0_ k_)) ∧ Aside0 (Below w0.heap.size w0 w'))
        case atStart => exact ⟨((wrap64 (a2 - 1))), (by first | rfl | (simp; done) | (simp [*]; done)), H', ⟨Nat.le_refl _⟩, ⟨by (try simp only [hl0_10]); (with_reducible repeat (first | apply Kd.R_alloc | apply Kd.R_drewN | apply Kd.R_drew)); exact HO_0.out⟩, ⟨by repeat (first | (with_reducible first | exact HK.out | apply Kept.alloc | apply Kept.drewN | apply Kept.drew) | exact HK.out)⟩, ⟨by repeat (first | (with_reducible first | exact HB.out | apply below_alloc | apply pw_below_drewN | apply below_drew1) | exact HB.out)⟩⟩
        case round =>
         clear H'
         try clear c1
         try clear p1
         try clear q1
         try clear hx1
         try clear c2
         try clear p2
         try clear q2
         try clear hx2
         try clear c5
         try clear c5b0
         try clear c6
         try clear c6b0
         try clear p6
         try clear c7
         try clear c7b0
         try clear c8
         try clear c8b0
         try clear p9
         try clear q9
         try clear hx9
         try clear hf9
         try clear p10
         try clear q10
         try clear hx10
         try clear hf10
         try clear c16
         try clear c16b0
         try clear c17
         try clear c17b0
         try clear c18
         try clear c18b0
         try clear c19
         try clear c19b0
         try clear c20
         try clear c20b0
         try clear p20
         try clear q20
         try clear hx20
         try clear c22
         try clear hx10_0
         try clear hx204_0
         try clear hx205_0
         try clear hx208_0
         try clear hx209_0
         try clear hx9_0
         try clear p1
         try clear p10
         try clear p2
         try clear p20
         try clear p204
         try clear p205
         try clear p208
         try clear p209
         try clear p6
         try clear p9
         try clear q1
         try clear q10
         try clear q2
         try clear q20
         try clear q204
         try clear q205
         try clear q208
         try clear q209
         try clear q9
         obtain ⟨x11_2, rfl, HA, HK2, HO_0, HK, HB⟩ := hrel
         cases gk with
         | zero => exact absurd HA.out (by simp [slices_partitionOrdered_uint32.l1])
         | succ k2 =>
          have H := HA.out
          clear HA
          simp only [slices_partitionOrdered_uint32.l1] at H
          by_cases c27 : x10_10 ≤ x11_2
          ·rw [if_pos c27] at H
           have c27b0 : decide (x10_10 ≤ x11_2) = true := decide_eq_true c27
           clear c27
           (first | rw [c27b0] | (simp only [i64_w, i32_w]; rw [c27b0]) | skip)
           by_cases c28 : 0 ≤ x11_2
           ·rw [if_pos c28] at H
            have c28b0 : decide (0 ≤ x11_2) = true := decide_eq_true c28
            clear c28
            by_cases c29 : x11_2 < (y207.length : Int)
            ·rw [if_pos c29] at H
             have c29b0 : decide (x11_2 < (y207.length : Int)) = true := decide_eq_true c29
             clear c29
             by_cases c30 : 0 ≤ a1
             ·rw [if_pos c30] at H
              have c30b0 : decide (0 ≤ a1) = true := decide_eq_true c30
              clear c30
              by_cases c31 : a1 < (y207.length : Int)
              ·rw [if_pos c31] at H
               have c31b0 : decide (a1 < (y207.length : Int)) = true := decide_eq_true c31
               clear c31
               replace H := Option.bind_eq_some_iff.mp H
               obtain ⟨t213, A320, H⟩ := H
               replace H : (if t213 = true then (slices_partitionOrdered_uint32.j3 k2 y207 a1 x10_10 x11_2) else (slices_partitionOrdered_uint32.l1 k2 y207 a1 x10_10 (wrap64 (x11_2 - 1)))) = some (r1, r2, r3) := H
               have A32 := Aside0.mk A320
               clear A320
               by_cases c33 : t213 = true
               ·subst c33
                have H1 : (slices_partitionOrdered_uint32.j3 k2 y207 a1 x10_10 x11_2) = some (r1, r2, r3) := by rw [if_pos rfl] at H; exact H
                clear H
                have H := H1
                clear H1
                have H' := Aside0.mk H
                clear H
                try go_wp2
                have n0_ := Aside0.mk (Kd.R_drew HO_0.out)
                have n1_ := Aside0.mk (Kept.drew HK.out)
                have n2_ := Aside0.mk (below_drew1 HB.out)
                clear HO_0
                clear HK
                clear HB
                have HO_0 := n0_
                have HK := n1_
                have HB := n2_
                clear n0_ n1_ n2_
                have p211 : 0 ≤ (x11_2 : Int) := of_decide_eq_true (by first | (with_reducible assumption) | assumption)
                have q211 : x11_2 < (y207.length : Int) := of_decide_eq_true (by first | (with_reducible assumption) | assumption)
                obtain ⟨ad211, e211, hx211_0⟩ := Kd.at_int (Kd.R_reads' HO_0.out).2.2 x11_2 p211 q211
                obtain rfl : (⟨go9, 0, none⟩ : Addr) = ad211 := (by injection e211)
                (first | simp only [add_plain] at hx211_0 | simp only [add_at] at hx211_0 | simp only [Addr.add, Nat.zero_add] at hx211_0 | skip)
                replace p211 := eq_true p211
                replace q211 := eq_true q211
                have p212 : 0 ≤ (a1 : Int) := of_decide_eq_true (by first | (with_reducible assumption) | assumption)
                have q212 : a1 < (y207.length : Int) := of_decide_eq_true (by first | (with_reducible assumption) | assumption)
                obtain ⟨ad212, e212, hx212_0⟩ := Kd.at_int (Kd.R_reads' HO_0.out).2.2 a1 p212 q212
                obtain rfl : (⟨go9, 0, none⟩ : Addr) = ad212 := (by injection e212)
                (first | simp only [add_plain] at hx212_0 | simp only [add_at] at hx212_0 | simp only [Addr.add, Nat.zero_add] at hx212_0 | skip)
                replace p212 := eq_true p212
                replace q212 := eq_true q212
                refine start_ (n:=15) (S := fun w' => w'.cell? ⟨go9, (x11_2).toNat, none⟩ = some (.int .u32 (rd y207 x11_2)) ∧ w'.cell? ⟨go9, (a1).toNat, none⟩ = some (.int .u32 (rd y207 a1))) (ds := []) #[false,false,false,false,false,false,false,false,false,false,false,false,false,false,false] (by kernel_rfl) rfl rfl ⟨hx211_0, hx212_0⟩ (fun hHeld => ?_); refine with_tabW slices_partitionOrdered_uint32.tab5 slices_partitionOrdered_uint32.bits5 (fun HT_ HW_ => ?_)
                generalize wr.drew = w34 at HO_0 HK HB hx211_0 hx212_0 hHeld ⊢
                refine pure_ (i:=0) (N:=some 46) (v:=?_) (a':=?_) #[true,false,false,false,false,false,false,false,false,false,false,false,false,false,false] rfl rfl (any_of HT_.out (by kernel_rfl)) (fun _ _ _ h => h) (Or.inl ⟨by rfl, ?_⟩) ?_ ?_
                rotate_left;·intro w';go_simp;with_reducible rfl
                rotate_left;·simp only [Act.put, pa_, pz_, pu_, i64_w, i32_w];rfl
                refine pure_ (i:=1) (N:=some 47) (v:=?_) (a':=?_) #[true,true,false,false,false,false,false,false,false,false,false,false,false,false,false] rfl rfl (any_of HT_.out (by kernel_rfl)) (fun _ _ _ h => h) (Or.inl ⟨by rfl, ?_⟩) ?_ ?_
                rotate_left;·intro w';go_simp;with_reducible rfl
                rotate_left;·simp only [Act.put, pa_, pz_, pu_, i64_w, i32_w];rfl
                refine pure_ (i:=2) (N:=some 48) (v:=?_) (a':=?_) #[true,true,true,false,false,false,false,false,false,false,false,false,false,false,false] rfl rfl (any_of HT_.out (by kernel_rfl)) (fun _ _ _ h => h) (Or.inl ⟨by rfl, ?_⟩) ?_ ?_
                rotate_left;·intro w';go_simp;with_reducible rfl
                rotate_left;·simp only [Act.put, pa_, pz_, pu_, i64_w, i32_w];rfl
                refine pure_ (i:=3) (N:=some 49) (v:=?_) (a':=?_) #[true,true,true,true,false,false,false,false,false,false,false,false,false,false,false] rfl rfl (any_of HT_.out (by kernel_rfl)) (fun _ _ _ h => h) (Or.inl ⟨by rfl, ?_⟩) ?_ ?_
                rotate_left;·intro w';go_simp;with_reducible rfl
                rotate_left;·simp only [Act.put, pa_, pz_, pu_, i64_w, i32_w];rfl
                refine pure_ (i:=4) (N:=some 50) (v:=?_) (a':=?_) #[true,true,true,true,true,false,false,false,false,false,false,false,false,false,false] rfl rfl (any_of HT_.out (by kernel_rfl)) (fun _ _ _ h => h) (Or.inl ⟨by rfl, ?_⟩) ?_ ?_
                rotate_left;·intro w';go_simp;with_reducible rfl
                rotate_left;·simp only [Act.put, pa_, pz_, pu_, i64_w, i32_w];rfl
                refine pure_ (i:=5) (N:=some 51) (v:=?_) (a':=?_) #[true,true,true,true,true,true,false,false,false,false,false,false,false,false,false] rfl rfl (any_of HT_.out (by kernel_rfl)) (fun _ _ _ h => h) (Or.inl ⟨by rfl, ?_⟩) ?_ ?_
                rotate_left;·intro w';go_simp;with_reducible rfl
                rotate_left;·simp only [Act.put, pa_, pz_, pu_, i64_w, i32_w];rfl
                refine pure_ (i:=6) (N:=some 52) (v:=?_) (a':=?_) #[true,true,true,true,true,true,true,false,false,false,false,false,false,false,false] rfl rfl (any_of HT_.out (by kernel_rfl)) (fun _ _ _ h => h) (Or.inl ⟨by rfl, ?_⟩) ?_ ?_
                rotate_left;·intro w';go_simp;with_reducible rfl
                rotate_left;·simp only [Act.put, pa_, pz_, pu_, i64_w, i32_w];rfl
                refine pure_ (i:=8) (N:=some 54) (v:=?_) (a':=?_) #[true,true,true,true,true,true,true,false,true,false,false,false,false,false,false] rfl rfl (any_of HT_.out (by kernel_rfl)) (fun _ _ _ h => h) (Or.inl ⟨by rfl, ?_⟩) ?_ ?_
                rotate_left;·intro w';go_simp;with_reducible rfl
                rotate_left;·simp only [Act.put, pa_, pz_, pu_, i64_w, i32_w];rfl
                refine pure_ (i:=9) (N:=some 55) (v:=?_) (a':=?_) #[true,true,true,true,true,true,true,false,true,true,false,false,false,false,false] rfl rfl (any_of HT_.out (by kernel_rfl)) (fun _ _ _ h => h) (Or.inl ⟨by rfl, ?_⟩) ?_ ?_
                rotate_left;·intro w';go_simp;with_reducible rfl
                rotate_left;·simp only [Act.put, pa_, pz_, pu_, i64_w, i32_w];rfl
                refine pure_ (i:=10) (N:=some 56) (v:=?_) (a':=?_) #[true,true,true,true,true,true,true,false,true,true,true,false,false,false,false] rfl rfl (any_of HT_.out (by kernel_rfl)) (fun _ _ _ h => h) (Or.inl ⟨by rfl, ?_⟩) ?_ ?_
                rotate_left;·intro w';go_simp;with_reducible rfl
                rotate_left;·simp only [Act.put, pa_, pz_, pu_, i64_w, i32_w];rfl
                refine take_ (i:=7) (N:=some 53) (v:=?_) (a':=?_) #[true,true,true,true,true,true,true,true,true,true,true,false,false,false,false] rfl rfl (take_ofW HT_.out HW_.out (by kernel_rfl)) (fun _ _ _ h => h) (Or.inl ⟨by rfl, ?_⟩) hHeld ?_ ?_
                rotate_left;·rintro w' ⟨s0, s1⟩;go_simp;with_reducible rfl
                rotate_left;·simp only [Act.put, pa_, pz_, pu_, i64_w, i32_w];rfl
                refine take_ (i:=11) (N:=some 57) (v:=?_) (a':=?_) #[true,true,true,true,true,true,true,true,true,true,true,true,false,false,false] rfl rfl (take_ofW HT_.out HW_.out (by kernel_rfl)) (fun _ _ _ h => h) (Or.inl ⟨by rfl, ?_⟩) hHeld ?_ ?_
                rotate_left;·rintro w' ⟨s0, s1⟩;go_simp;with_reducible rfl
                rotate_left;·simp only [Act.put, pa_, pz_, pu_, i64_w, i32_w];rfl
                refine one_ (i:=12) (N:=some 58) #[true,true,true,true,true,true,true,true,true,true,true,true,true,false,false] rfl rfl (one_of HT_.out (by kernel_rfl)) (by decide) (fun K hK => ?_)
                refine goes_ Tryd.func57 (by kernel_rfl) rfl #[.int .u32 (rd y207 x11_2), .int .u32 (rd y207 a1)] (by rfl) rfl rfl (by (try simp only [List.map_toArray, List.map_cons, List.map_nil]); first | done | rfl | (simp only [List.length_drop, List.length_take]; rfl)) ?_
                with_reducible refine (cmp_Less_uint32.calls (rd y207 x11_2) (rd y207 a1) true _ A32.out).mono ?_
                rintro e w' ⟨rfl, ⟨nd, rfl⟩⟩
                refine ⟨_, rfl, ?_⟩
                refine hK.out _ _ ⟨hHeld.1, hHeld.2⟩ (fun hHeld => ?_)
                clear hK K
                refine norm_ (a' := ?_) ?_ ?_
                rotate_left
                ·show Act.put _ (some 58) _ = _
                 simp only [Act.put, List.setIfInBounds_toArray, List.set_cons_zero, List.set_cons_succ, i64_w, i32_w]
                 rfl
                refine pure_ (i:=13) (N:=some 59) (v:=?_) (a':=?_) #[true,true,true,true,true,true,true,true,true,true,true,true,true,true,false] rfl rfl (any_of HT_.out (by kernel_rfl)) (fun _ _ _ h => h) (Or.inl ⟨by rfl, ?_⟩) ?_ ?_
                rotate_left;·intro w';go_simp;with_reducible rfl
                rotate_left;·simp only [Act.put, pa_, pz_, pu_, i64_w, i32_w];rfl
                refine pure_ (i:=14) (N:=some 60) (v:=?_) (a':=?_) #[true,true,true,true,true,true,true,true,true,true,true,true,true,true,true] rfl rfl (any_of HT_.out (by kernel_rfl)) (fun _ _ _ h => h) (Or.inl ⟨by rfl, ?_⟩) ?_ ?_
                rotate_left;·intro w';go_simp;with_reducible rfl
                rotate_left;·simp only [Act.put, pa_, pz_, pu_, i64_w, i32_w];rfl
                refine done_ (done_of HT_.out (by kernel_rfl)) ?_
                try go_wp2
                go_meet
                case rel => exact ⟨_, (x11_2), (by first | rfl | (simp; done) | (simp [*]; done)), H', ⟨by have := HJ10.out; have := HK2.out; first | omega | exact Nat.le_refl _⟩, ⟨by (try simp only [hl0_10]); (with_reducible repeat (first | apply Kd.R_alloc | apply Kd.R_drewN | apply Kd.R_drew)); exact HO_0.out⟩, ⟨by repeat (first | (with_reducible first | exact HK.out | apply Kept.alloc | apply Kept.drewN | apply Kept.drew) | exact HK.out)⟩, ⟨by repeat (first | (with_reducible first | exact HB.out | apply below_alloc | apply pw_below_drewN | apply below_drew1) | exact HB.out)⟩⟩
               ·replace c33 := Bool.eq_false_iff.mpr c33
                subst c33
                have H1 : (slices_partitionOrdered_uint32.l1 k2 y207 a1 x10_10 (wrap64 (x11_2 - 1))) = some (r1, r2, r3) := by rw [if_neg (show ¬ (false = true) by decide)] at H; exact H
                clear H
                have H := H1
                clear H1
                have H' := Aside0.mk H
                clear H
                try go_wp2
                have n0_ := Aside0.mk (Kd.R_drew HO_0.out)
                have n1_ := Aside0.mk (Kept.drew HK.out)
                have n2_ := Aside0.mk (below_drew1 HB.out)
                clear HO_0
                clear HK
                clear HB
                have HO_0 := n0_
                have HK := n1_
                have HB := n2_
                clear n0_ n1_ n2_
                have p211 : 0 ≤ (x11_2 : Int) := of_decide_eq_true (by first | (with_reducible assumption) | assumption)
                have q211 : x11_2 < (y207.length : Int) := of_decide_eq_true (by first | (with_reducible assumption) | assumption)
                obtain ⟨ad211, e211, hx211_0⟩ := Kd.at_int (Kd.R_reads' HO_0.out).2.2 x11_2 p211 q211
                obtain rfl : (⟨go9, 0, none⟩ : Addr) = ad211 := (by injection e211)
                (first | simp only [add_plain] at hx211_0 | simp only [add_at] at hx211_0 | simp only [Addr.add, Nat.zero_add] at hx211_0 | skip)
                replace p211 := eq_true p211
                replace q211 := eq_true q211
                have p212 : 0 ≤ (a1 : Int) := of_decide_eq_true (by first | (with_reducible assumption) | assumption)
                have q212 : a1 < (y207.length : Int) := of_decide_eq_true (by first | (with_reducible assumption) | assumption)
                obtain ⟨ad212, e212, hx212_0⟩ := Kd.at_int (Kd.R_reads' HO_0.out).2.2 a1 p212 q212
                obtain rfl : (⟨go9, 0, none⟩ : Addr) = ad212 := (by injection e212)
                (first | simp only [add_plain] at hx212_0 | simp only [add_at] at hx212_0 | simp only [Addr.add, Nat.zero_add] at hx212_0 | skip)
                replace p212 := eq_true p212
                replace q212 := eq_true q212
                refine start_ (n:=15) (S := fun w' => w'.cell? ⟨go9, (x11_2).toNat, none⟩ = some (.int .u32 (rd y207 x11_2)) ∧ w'.cell? ⟨go9, (a1).toNat, none⟩ = some (.int .u32 (rd y207 a1))) (ds := []) #[false,false,false,false,false,false,false,false,false,false,false,false,false,false,false] (by kernel_rfl) rfl rfl ⟨hx211_0, hx212_0⟩ (fun hHeld => ?_); refine with_tabW slices_partitionOrdered_uint32.tab5 slices_partitionOrdered_uint32.bits5 (fun HT_ HW_ => ?_)
                generalize wr.drew = w35 at HO_0 HK HB hx211_0 hx212_0 hHeld ⊢
                refine pure_ (i:=0) (N:=some 46) (v:=?_) (a':=?_) #[true,false,false,false,false,false,false,false,false,false,false,false,false,false,false] rfl rfl (any_of HT_.out (by kernel_rfl)) (fun _ _ _ h => h) (Or.inl ⟨by rfl, ?_⟩) ?_ ?_
                rotate_left;·intro w';go_simp;with_reducible rfl
                rotate_left;·simp only [Act.put, pa_, pz_, pu_, i64_w, i32_w];rfl
                refine pure_ (i:=1) (N:=some 47) (v:=?_) (a':=?_) #[true,true,false,false,false,false,false,false,false,false,false,false,false,false,false] rfl rfl (any_of HT_.out (by kernel_rfl)) (fun _ _ _ h => h) (Or.inl ⟨by rfl, ?_⟩) ?_ ?_
                rotate_left;·intro w';go_simp;with_reducible rfl
                rotate_left;·simp only [Act.put, pa_, pz_, pu_, i64_w, i32_w];rfl
                refine pure_ (i:=2) (N:=some 48) (v:=?_) (a':=?_) #[true,true,true,false,false,false,false,false,false,false,false,false,false,false,false] rfl rfl (any_of HT_.out (by kernel_rfl)) (fun _ _ _ h => h) (Or.inl ⟨by rfl, ?_⟩) ?_ ?_
                rotate_left;·intro w';go_simp;with_reducible rfl
                rotate_left;·simp only [Act.put, pa_, pz_, pu_, i64_w, i32_w];rfl
                refine pure_ (i:=3) (N:=some 49) (v:=?_) (a':=?_) #[true,true,true,true,false,false,false,false,false,false,false,false,false,false,false] rfl rfl (any_of HT_.out (by kernel_rfl)) (fun _ _ _ h => h) (Or.inl ⟨by rfl, ?_⟩) ?_ ?_
                rotate_left;·intro w';go_simp;with_reducible rfl
                rotate_left;·simp only [Act.put, pa_, pz_, pu_, i64_w, i32_w];rfl
                refine pure_ (i:=4) (N:=some 50) (v:=?_) (a':=?_) #[true,true,true,true,true,false,false,false,false,false,false,false,false,false,false] rfl rfl (any_of HT_.out (by kernel_rfl)) (fun _ _ _ h => h) (Or.inl ⟨by rfl, ?_⟩) ?_ ?_
                rotate_left;·intro w';go_simp;with_reducible rfl
                rotate_left;·simp only [Act.put, pa_, pz_, pu_, i64_w, i32_w];rfl
                refine pure_ (i:=5) (N:=some 51) (v:=?_) (a':=?_) #[true,true,true,true,true,true,false,false,false,false,false,false,false,false,false] rfl rfl (any_of HT_.out (by kernel_rfl)) (fun _ _ _ h => h) (Or.inl ⟨by rfl, ?_⟩) ?_ ?_
                rotate_left;·intro w';go_simp;with_reducible rfl
                rotate_left;·simp only [Act.put, pa_, pz_, pu_, i64_w, i32_w];rfl
                refine pure_ (i:=6) (N:=some 52) (v:=?_) (a':=?_) #[true,true,true,true,true,true,true,false,false,false,false,false,false,false,false] rfl rfl (any_of HT_.out (by kernel_rfl)) (fun _ _ _ h => h) (Or.inl ⟨by rfl, ?_⟩) ?_ ?_
                rotate_left;·intro w';go_simp;with_reducible rfl
                rotate_left;·simp only [Act.put, pa_, pz_, pu_, i64_w, i32_w];rfl
                refine pure_ (i:=8) (N:=some 54) (v:=?_) (a':=?_) #[true,true,true,true,true,true,true,false,true,false,false,false,false,false,false] rfl rfl (any_of HT_.out (by kernel_rfl)) (fun _ _ _ h => h) (Or.inl ⟨by rfl, ?_⟩) ?_ ?_
                rotate_left;·intro w';go_simp;with_reducible rfl
                rotate_left;·simp only [Act.put, pa_, pz_, pu_, i64_w, i32_w];rfl
                refine pure_ (i:=9) (N:=some 55) (v:=?_) (a':=?_) #[true,true,true,true,true,true,true,false,true,true,false,false,false,false,false] rfl rfl (any_of HT_.out (by kernel_rfl)) (fun _ _ _ h => h) (Or.inl ⟨by rfl, ?_⟩) ?_ ?_
                rotate_left;·intro w';go_simp;with_reducible rfl
                rotate_left;·simp only [Act.put, pa_, pz_, pu_, i64_w, i32_w];rfl
                refine pure_ (i:=10) (N:=some 56) (v:=?_) (a':=?_) #[true,true,true,true,true,true,true,false,true,true,true,false,false,false,false] rfl rfl (any_of HT_.out (by kernel_rfl)) (fun _ _ _ h => h) (Or.inl ⟨by rfl, ?_⟩) ?_ ?_
                rotate_left;·intro w';go_simp;with_reducible rfl
                rotate_left;·simp only [Act.put, pa_, pz_, pu_, i64_w, i32_w];rfl
                refine take_ (i:=7) (N:=some 53) (v:=?_) (a':=?_) #[true,true,true,true,true,true,true,true,true,true,true,false,false,false,false] rfl rfl (take_ofW HT_.out HW_.out (by kernel_rfl)) (fun _ _ _ h => h) (Or.inl ⟨by rfl, ?_⟩) hHeld ?_ ?_
                rotate_left;·rintro w' ⟨s0, s1⟩;go_simp;with_reducible rfl
                rotate_left;·simp only [Act.put, pa_, pz_, pu_, i64_w, i32_w];rfl
                refine take_ (i:=11) (N:=some 57) (v:=?_) (a':=?_) #[true,true,true,true,true,true,true,true,true,true,true,true,false,false,false] rfl rfl (take_ofW HT_.out HW_.out (by kernel_rfl)) (fun _ _ _ h => h) (Or.inl ⟨by rfl, ?_⟩) hHeld ?_ ?_
                rotate_left;·rintro w' ⟨s0, s1⟩;go_simp;with_reducible rfl
                rotate_left;·simp only [Act.put, pa_, pz_, pu_, i64_w, i32_w];rfl
                refine one_ (i:=12) (N:=some 58) #[true,true,true,true,true,true,true,true,true,true,true,true,true,false,false] rfl rfl (one_of HT_.out (by kernel_rfl)) (by decide) (fun K hK => ?_)
                refine goes_ Tryd.func57 (by kernel_rfl) rfl #[.int .u32 (rd y207 x11_2), .int .u32 (rd y207 a1)] (by rfl) rfl rfl (by (try simp only [List.map_toArray, List.map_cons, List.map_nil]); first | done | rfl | (simp only [List.length_drop, List.length_take]; rfl)) ?_
                with_reducible refine (cmp_Less_uint32.calls (rd y207 x11_2) (rd y207 a1) false _ A32.out).mono ?_
                rintro e w' ⟨rfl, ⟨nd, rfl⟩⟩
                refine ⟨_, rfl, ?_⟩
                refine hK.out _ _ ⟨hHeld.1, hHeld.2⟩ (fun hHeld => ?_)
                clear hK K
                refine norm_ (a' := ?_) ?_ ?_
                rotate_left
                ·show Act.put _ (some 58) _ = _
                 simp only [Act.put, List.setIfInBounds_toArray, List.set_cons_zero, List.set_cons_succ, i64_w, i32_w]
                 rfl
                refine pure_ (i:=13) (N:=some 59) (v:=?_) (a':=?_) #[true,true,true,true,true,true,true,true,true,true,true,true,true,true,false] rfl rfl (any_of HT_.out (by kernel_rfl)) (fun _ _ _ h => h) (Or.inl ⟨by rfl, ?_⟩) ?_ ?_
                rotate_left;·intro w';go_simp;with_reducible rfl
                rotate_left;·simp only [Act.put, pa_, pz_, pu_, i64_w, i32_w];rfl
                refine pure_ (i:=14) (N:=some 60) (v:=?_) (a':=?_) #[true,true,true,true,true,true,true,true,true,true,true,true,true,true,true] rfl rfl (any_of HT_.out (by kernel_rfl)) (fun _ _ _ h => h) (Or.inl ⟨by rfl, ?_⟩) ?_ ?_
                rotate_left;·intro w';go_simp;with_reducible rfl
                rotate_left;·simp only [Act.put, pa_, pz_, pu_, i64_w, i32_w];rfl
                refine done_ (done_of HT_.out (by kernel_rfl)) ?_
                try go_wp2
                go_roundg k2
                case measure => have := HJ10.out; have := HK2.out; omega
                case rel => exact ⟨(wrap64 (x11_2 - 1)), (by first | rfl | (simp; done) | (simp [*]; done)), H', ⟨by have := HJ10.out; have := HK2.out; omega⟩, ⟨by (try simp only [hl0_10]); (with_reducible repeat (first | apply Kd.R_alloc | apply Kd.R_drewN | apply Kd.R_drew)); exact HO_0.out⟩, ⟨by repeat (first | (with_reducible first | exact HK.out | apply Kept.alloc | apply Kept.drewN | apply Kept.drew) | exact HK.out)⟩, ⟨by repeat (first | (with_reducible first | exact HB.out | apply below_alloc | apply pw_below_drewN | apply below_drew1) | exact HB.out)⟩⟩
              ·rw [if_neg c31] at H
               exact absurd H (by simp)
             ·rw [if_neg c30] at H
              exact absurd H (by simp)
            ·rw [if_neg c29] at H
             exact absurd H (by simp)
           ·rw [if_neg c28] at H
            exact absurd H (by simp)
          ·rw [if_neg c27] at H
           have c27b0 : decide (x10_10 ≤ x11_2) = false := decide_eq_false c27
           clear c27
           (first | rw [c27b0] | (simp only [i64_w, i32_w]; rw [c27b0]) | skip)
           have H' := Aside0.mk H
           clear H
           try go_wp2
           have n0_ := Aside0.mk (Kd.R_drew HO_0.out)
           have n1_ := Aside0.mk (Kept.drew HK.out)
           have n2_ := Aside0.mk (below_drew1 HB.out)
           clear HO_0
           clear HK
           clear HB
           have HO_0 := n0_
           have HK := n1_
           have HB := n2_
           clear n0_ n1_ n2_
           refine start_ (n:=15) (S := fun w' => True) (ds := []) #[false,false,false,false,false,false,false,false,false,false,false,false,false,false,false] (by kernel_rfl) rfl rfl trivial (fun hHeld => ?_); refine with_tabW slices_partitionOrdered_uint32.tab5 slices_partitionOrdered_uint32.bits5 (fun HT_ HW_ => ?_)
           generalize wr.drew = w36 at HO_0 HK HB hHeld ⊢
           refine pure_ (i:=0) (N:=some 46) (v:=?_) (a':=?_) #[true,false,false,false,false,false,false,false,false,false,false,false,false,false,false] rfl rfl (any_of HT_.out (by kernel_rfl)) (fun _ _ _ h => h) (Or.inl ⟨by rfl, ?_⟩) ?_ ?_
           rotate_left;·intro w';go_simp;with_reducible rfl
           rotate_left;·simp only [Act.put, pa_, pz_, pu_, i64_w, i32_w];rfl
           refine pure_ (i:=1) (N:=some 47) (v:=?_) (a':=?_) #[true,true,false,false,false,false,false,false,false,false,false,false,false,false,false] rfl rfl (any_of HT_.out (by kernel_rfl)) (fun _ _ _ h => h) (Or.inl ⟨by rfl, ?_⟩) ?_ ?_
           rotate_left;·intro w';go_simp;with_reducible rfl
           rotate_left;·simp only [Act.put, pa_, pz_, pu_, i64_w, i32_w];rfl
           refine pure_ (i:=2) (N:=some 48) (v:=?_) (a':=?_) #[true,true,true,false,false,false,false,false,false,false,false,false,false,false,false] rfl rfl (any_of HT_.out (by kernel_rfl)) (fun _ _ _ h => h) (Or.inl ⟨by rfl, ?_⟩) ?_ ?_
           rotate_left;·intro w';go_simp;with_reducible rfl
           rotate_left;·simp only [Act.put, pa_, pz_, pu_, i64_w, i32_w];rfl
           refine pure_ (i:=3) (N:=some 49) (v:=?_) (a':=?_) #[true,true,true,true,false,false,false,false,false,false,false,false,false,false,false] rfl rfl (any_of HT_.out (by kernel_rfl)) (fun _ _ _ h => h) (Or.inl ⟨by rfl, ?_⟩) ?_ ?_
           rotate_left;·intro w';go_simp;with_reducible rfl
           rotate_left;·simp only [Act.put, pa_, pz_, pu_, i64_w, i32_w];rfl
           refine pure_ (i:=4) (N:=some 50) (v := undef) (a' := ?_) #[true,true,true,true,true,false,false,false,false,false,false,false,false,false,false] rfl rfl (any_of HT_.out (by kernel_rfl)) (fun _ _ _ h => h) (Or.inr ⟨by rfl, rfl⟩) ?_ ?_
           rotate_left;·simp only [Act.put, pa_, pz_, pu_, i64_w, i32_w];rfl
           refine pure_ (i:=5) (N:=some 51) (v := undef) (a' := ?_) #[true,true,true,true,true,true,false,false,false,false,false,false,false,false,false] rfl rfl (any_of HT_.out (by kernel_rfl)) (fun _ _ _ h => h) (Or.inr ⟨by rfl, rfl⟩) ?_ ?_
           rotate_left;·simp only [Act.put, pa_, pz_, pu_, i64_w, i32_w];rfl
           refine pure_ (i:=6) (N:=some 52) (v := undef) (a' := ?_) #[true,true,true,true,true,true,true,false,false,false,false,false,false,false,false] rfl rfl (any_of HT_.out (by kernel_rfl)) (fun _ _ _ h => h) (Or.inr ⟨by rfl, rfl⟩) ?_ ?_
           rotate_left;·simp only [Act.put, pa_, pz_, pu_, i64_w, i32_w];rfl
           refine pure_ (i:=7) (N:=some 53) (v := undef) (a' := ?_) #[true,true,true,true,true,true,true,true,false,false,false,false,false,false,false] rfl rfl (any_of HT_.out (by kernel_rfl)) (fun _ _ _ h => h) (Or.inr ⟨by rfl, rfl⟩) ?_ ?_
           rotate_left;·simp only [Act.put, pa_, pz_, pu_, i64_w, i32_w];rfl
           refine pure_ (i:=8) (N:=some 54) (v := undef) (a' := ?_) #[true,true,true,true,true,true,true,true,true,false,false,false,false,false,false] rfl rfl (any_of HT_.out (by kernel_rfl)) (fun _ _ _ h => h) (Or.inr ⟨by rfl, rfl⟩) ?_ ?_
           rotate_left;·simp only [Act.put, pa_, pz_, pu_, i64_w, i32_w];rfl
           refine pure_ (i:=9) (N:=some 55) (v := undef) (a' := ?_) #[true,true,true,true,true,true,true,true,true,true,false,false,false,false,false] rfl rfl (any_of HT_.out (by kernel_rfl)) (fun _ _ _ h => h) (Or.inr ⟨by rfl, rfl⟩) ?_ ?_
           rotate_left;·simp only [Act.put, pa_, pz_, pu_, i64_w, i32_w];rfl
           refine pure_ (i:=10) (N:=some 56) (v := undef) (a' := ?_) #[true,true,true,true,true,true,true,true,true,true,true,false,false,false,false] rfl rfl (any_of HT_.out (by kernel_rfl)) (fun _ _ _ h => h) (Or.inr ⟨by rfl, rfl⟩) ?_ ?_
           rotate_left;·simp only [Act.put, pa_, pz_, pu_, i64_w, i32_w];rfl
           refine pure_ (i:=11) (N:=some 57) (v := undef) (a' := ?_) #[true,true,true,true,true,true,true,true,true,true,true,true,false,false,false] rfl rfl (any_of HT_.out (by kernel_rfl)) (fun _ _ _ h => h) (Or.inr ⟨by rfl, rfl⟩) ?_ ?_
           rotate_left;·simp only [Act.put, pa_, pz_, pu_, i64_w, i32_w];rfl
           refine pure_ (i:=12) (N:=some 58) (v := undef) (a' := ?_) #[true,true,true,true,true,true,true,true,true,true,true,true,true,false,false] rfl rfl (any_of HT_.out (by kernel_rfl)) (fun _ _ _ h => h) (Or.inr ⟨by rfl, rfl⟩) ?_ ?_
           rotate_left;·simp only [Act.put, pa_, pz_, pu_, i64_w, i32_w];rfl
           refine pure_ (i:=13) (N:=some 59) (v := undef) (a' := ?_) #[true,true,true,true,true,true,true,true,true,true,true,true,true,true,false] rfl rfl (any_of HT_.out (by kernel_rfl)) (fun _ _ _ h => h) (Or.inr ⟨by rfl, rfl⟩) ?_ ?_
           rotate_left;·simp only [Act.put, pa_, pz_, pu_, i64_w, i32_w];rfl
           refine pure_ (i:=14) (N:=some 60) (v:=?_) (a':=?_) #[true,true,true,true,true,true,true,true,true,true,true,true,true,true,true] rfl rfl (any_of HT_.out (by kernel_rfl)) (fun _ _ _ h => h) (Or.inl ⟨by rfl, ?_⟩) ?_ ?_
           rotate_left;·intro w';go_simp;with_reducible rfl
           rotate_left;·simp only [Act.put, pa_, pz_, pu_, i64_w, i32_w];rfl
           refine done_ (done_of HT_.out (by kernel_rfl)) ?_
           try go_wp2
           go_meet
           case rel => exact ⟨_, (x11_2), (by first | rfl | (simp; done) | (simp [*]; done)), H', ⟨by have := HJ10.out; have := HK2.out; first | omega | exact Nat.le_refl _⟩, ⟨by (try simp only [hl0_10]); (with_reducible repeat (first | apply Kd.R_alloc | apply Kd.R_drewN | apply Kd.R_drew)); exact HO_0.out⟩, ⟨by repeat (first | (with_reducible first | exact HK.out | apply Kept.alloc | apply Kept.drewN | apply Kept.drew) | exact HK.out)⟩, ⟨by repeat (first | (with_reducible first | exact HB.out | apply below_alloc | apply pw_below_drewN | apply below_drew1) | exact HB.out)⟩⟩
       case rest =>
        clear HC26
        try clear c1
        try clear p1
        try clear q1
        try clear hx1
        try clear c2
        try clear p2
        try clear q2
        try clear hx2
        try clear c3
        try clear c5
        try clear c5b0
        try clear c6
        try clear c6b0
        try clear p6
        try clear c7
        try clear c7b0
        try clear c8
        try clear c8b0
        try clear p9
        try clear q9
        try clear hx9
        try clear hf9
        try clear p10
        try clear q10
        try clear hx10
        try clear hf10
        try clear c16
        try clear c16b0
        try clear c17
        try clear c17b0
        try clear c18
        try clear c18b0
        try clear c19
        try clear c19b0
        try clear c20
        try clear c20b0
        try clear p20
        try clear q20
        try clear hx20
        try clear p21
        try clear q21
        try clear hx21
        try clear c22
        try clear c27
        try clear c27b0
        try clear c28
        try clear c28b0
        try clear c29
        try clear c29b0
        try clear c30
        try clear c30b0
        try clear c31
        try clear c31b0
        try clear c33
        try clear hx10_0
        try clear hx204_0
        try clear hx205_0
        try clear hx208_0
        try clear hx209_0
        try clear hx211_0
        try clear hx212_0
        try clear hx9_0
        try clear p1
        try clear p10
        try clear p2
        try clear p20
        try clear p204
        try clear p205
        try clear p208
        try clear p209
        try clear p211
        try clear p212
        try clear p6
        try clear p9
        try clear q1
        try clear q10
        try clear q2
        try clear q20
        try clear q204
        try clear q205
        try clear q208
        try clear q209
        try clear q211
        try clear q212
        try clear q9
        obtain ⟨kq, x11_25, rfl, HA, HJ25, HO_0, HK, HB⟩ := hcut
        cases kq with
        | zero => exact absurd HA.out (by simp [slices_partitionOrdered_uint32.j3])
        | succ kj25 =>
         have H := HA.out
         clear HA
         simp only [slices_partitionOrdered_uint32.j3] at H
         by_cases c37 : x10_10 > x11_25
         ·rw [if_pos c37] at H
          have c37b0 : decide (x11_25 < x10_10) = true := decide_eq_true c37
          clear c37
          by_cases c38 : 0 ≤ a1
          ·rw [if_pos c38] at H
           have c38b0 : decide (0 ≤ a1) = true := decide_eq_true c38
           clear c38
           by_cases c39 : a1 < (y207.length : Int)
           ·rw [if_pos c39] at H
            have c39b0 : decide (a1 < (y207.length : Int)) = true := decide_eq_true c39
            clear c39
            by_cases c40 : 0 ≤ x11_25
            ·rw [if_pos c40] at H
             have c40b0 : decide (0 ≤ x11_25) = true := decide_eq_true c40
             clear c40
             by_cases c41 : x11_25 < (y207.length : Int)
             ·rw [if_pos c41] at H
              have c41b0 : decide (x11_25 < (y207.length : Int)) = true := decide_eq_true c41
              clear c41
              obtain ⟨y216, hy216⟩ : ∃ y_ : List Int, y_ = (y207.set (x11_25 : Int).toNat (rd y207 a1)) := ⟨_, rfl⟩
              replace H : (some (x11_25, true, (y216.set (a1 : Int).toNat (rd y207 x11_25)))) = some (r1, r2, r3) := by first | (rw [hy216]; with_reducible exact H) | (have H2_ := (Option.bind_some _ _).symm.trans H; rw [hy216]; with_reducible exact H2_) | (have H2_ := (Option.bind_some _ _).symm.trans H; with_reducible exact H2_) | with_reducible exact H | (rw [hy216]; exact H) | exact H
              have Ny216 := Aside0.mk hy216
              clear hy216
              obtain ⟨y217, hy217⟩ : ∃ y_ : List Int, y_ = (y216.set (a1 : Int).toNat (rd y207 x11_25)) := ⟨_, rfl⟩
              replace H : (some (x11_25, true, y217)) = some (r1, r2, r3) := by first | (rw [hy217]; with_reducible exact H) | (have H2_ := (Option.bind_some _ _).symm.trans H; rw [hy217]; with_reducible exact H2_) | (have H2_ := (Option.bind_some _ _).symm.trans H; with_reducible exact H2_) | with_reducible exact H | (rw [hy217]; exact H) | exact H
              have Ny217 := Aside0.mk hy217
              clear hy217
              simp only [Option.some.injEq, Prod.mk.injEq] at H
              obtain ⟨rfl, rfl, rfl⟩ := H
              try go_wp2
              have n0_ := Aside0.mk (Kd.R_drew HO_0.out)
              have n1_ := Aside0.mk (Kept.drew HK.out)
              have n2_ := Aside0.mk (below_drew1 HB.out)
              clear HO_0
              clear HK
              clear HB
              have HO_0 := n0_
              have HK := n1_
              have HB := n2_
              clear n0_ n1_ n2_
              have p214 : 0 ≤ (a1 : Int) := of_decide_eq_true (by first | (with_reducible assumption) | assumption)
              have q214 : a1 < (y207.length : Int) := of_decide_eq_true (by first | (with_reducible assumption) | assumption)
              obtain ⟨ad214, e214, hx214_0⟩ := Kd.at_int (Kd.R_reads' HO_0.out).2.2 a1 p214 q214
              obtain rfl : (⟨go9, 0, none⟩ : Addr) = ad214 := (by injection e214)
              (first | simp only [add_plain] at hx214_0 | simp only [add_at] at hx214_0 | simp only [Addr.add, Nat.zero_add] at hx214_0 | skip)
              replace p214 := eq_true p214
              replace q214 := eq_true q214
              have p215 : 0 ≤ (x11_25 : Int) := of_decide_eq_true (by first | (with_reducible assumption) | assumption)
              have q215 : x11_25 < (y207.length : Int) := of_decide_eq_true (by first | (with_reducible assumption) | assumption)
              obtain ⟨ad215, e215, hx215_0⟩ := Kd.at_int (Kd.R_reads' HO_0.out).2.2 x11_25 p215 q215
              obtain rfl : (⟨go9, 0, none⟩ : Addr) = ad215 := (by injection e215)
              (first | simp only [add_plain] at hx215_0 | simp only [add_at] at hx215_0 | simp only [Addr.add, Nat.zero_add] at hx215_0 | skip)
              replace p215 := eq_true p215
              replace q215 := eq_true q215
              have p42 : 0 ≤ (x11_25 : Int) := of_decide_eq_true (by first | (with_reducible assumption) | assumption)
              have q42 : (x11_25 : Int) < ((y207.length : Int) : Int) := of_decide_eq_true (by first | (with_reducible assumption) | assumption)
              obtain ⟨hx42_0, hf42_0⟩ := Kd.R_celln 0 HO_0.out (x11_25 : Int) p42 q42
              replace p42 := eq_true p42
              replace q42 := eq_true q42
              have HP45 := Kd.R_putn HO_0.out (x11_25 : Int) (rd y207 a1)
              rw [← Ny216.out] at HP45
              have HQ45 := Aside0.mk HP45
              clear HP45
              have p43 : 0 ≤ (a1 : Int) := of_decide_eq_true (by first | (with_reducible assumption) | assumption)
              have q43 : (a1 : Int) < ((y207.length : Int) : Int) := of_decide_eq_true (by first | (with_reducible assumption) | assumption)
              obtain ⟨hx43_0, hf43_0⟩ := Kd.R_celln 0 HQ45.out (a1 : Int) p43 q43
              replace p43 := eq_true p43
              replace q43 := eq_true q43
              have HP46 := Kd.R_putn HQ45.out (a1 : Int) (rd y207 x11_25)
              rw [← Ny217.out] at HP46
              have HQ46 := Aside0.mk HP46
              clear HP46
              refine start_ (n:=16) (S := fun w' => w'.cell? ⟨go9, (a1).toNat, none⟩ = some (.int .u32 (rd y207 a1)) ∧ w'.cell? ⟨go9, (x11_25).toNat, none⟩ = some (.int .u32 (rd y207 x11_25))) (ds := [13, 15]) #[false,false,false,false,false,false,false,false,false,false,false,false,false,false,false,false] (by kernel_rfl) rfl rfl ⟨hx214_0, hx215_0⟩ (fun hHeld => ?_); refine with_tabW slices_partitionOrdered_uint32.tab8 slices_partitionOrdered_uint32.bits8 (fun HT_ HW_ => ?_)
              generalize wc.drew = w44 at HO_0 HK HB HQ45 HQ46 hf42_0 hf43_0 hx214_0 hx215_0 hx42_0 hx43_0 hHeld ⊢
              refine pure_ (i:=0) (N:=some 66) (v:=?_) (a':=?_) #[true,false,false,false,false,false,false,false,false,false,false,false,false,false,false,false] rfl rfl (any_of HT_.out (by kernel_rfl)) (fun _ _ _ h => h) (Or.inl ⟨by rfl, ?_⟩) ?_ ?_
              rotate_left;·intro w';go_simp;with_reducible rfl
              rotate_left;·simp only [Act.put, pa_, pz_, pu_, i64_w, i32_w];rfl
              refine pure_ (i:=1) (N:=some 67) (v:=?_) (a':=?_) #[true,true,false,false,false,false,false,false,false,false,false,false,false,false,false,false] rfl rfl (any_of HT_.out (by kernel_rfl)) (fun _ _ _ h => h) (Or.inl ⟨by rfl, ?_⟩) ?_ ?_
              rotate_left;·intro w';go_simp;with_reducible rfl
              rotate_left;·simp only [Act.put, pa_, pz_, pu_, i64_w, i32_w];rfl
              refine pure_ (i:=2) (N:=some 68) (v:=?_) (a':=?_) #[true,true,true,false,false,false,false,false,false,false,false,false,false,false,false,false] rfl rfl (any_of HT_.out (by kernel_rfl)) (fun _ _ _ h => h) (Or.inl ⟨by rfl, ?_⟩) ?_ ?_
              rotate_left;·intro w';go_simp;with_reducible rfl
              rotate_left;·simp only [Act.put, pa_, pz_, pu_, i64_w, i32_w];rfl
              refine pure_ (i:=3) (N:=some 69) (v:=?_) (a':=?_) #[true,true,true,true,false,false,false,false,false,false,false,false,false,false,false,false] rfl rfl (any_of HT_.out (by kernel_rfl)) (fun _ _ _ h => h) (Or.inl ⟨by rfl, ?_⟩) ?_ ?_
              rotate_left;·intro w';go_simp;with_reducible rfl
              rotate_left;·simp only [Act.put, pa_, pz_, pu_, i64_w, i32_w];rfl
              refine pure_ (i:=4) (N:=some 70) (v:=?_) (a':=?_) #[true,true,true,true,true,false,false,false,false,false,false,false,false,false,false,false] rfl rfl (any_of HT_.out (by kernel_rfl)) (fun _ _ _ h => h) (Or.inl ⟨by rfl, ?_⟩) ?_ ?_
              rotate_left;·intro w';go_simp;with_reducible rfl
              rotate_left;·simp only [Act.put, pa_, pz_, pu_, i64_w, i32_w];rfl
              refine pure_ (i:=5) (N:=some 71) (v:=?_) (a':=?_) #[true,true,true,true,true,true,false,false,false,false,false,false,false,false,false,false] rfl rfl (any_of HT_.out (by kernel_rfl)) (fun _ _ _ h => h) (Or.inl ⟨by rfl, ?_⟩) ?_ ?_
              rotate_left;·intro w';go_simp;with_reducible rfl
              rotate_left;·simp only [Act.put, pa_, pz_, pu_, i64_w, i32_w];rfl
              refine pure_ (i:=6) (N:=some 72) (v:=?_) (a':=?_) #[true,true,true,true,true,true,true,false,false,false,false,false,false,false,false,false] rfl rfl (any_of HT_.out (by kernel_rfl)) (fun _ _ _ h => h) (Or.inl ⟨by rfl, ?_⟩) ?_ ?_
              rotate_left;·intro w';go_simp;with_reducible rfl
              rotate_left;·simp only [Act.put, pa_, pz_, pu_, i64_w, i32_w];rfl
              refine pure_ (i:=8) (N:=some 74) (v:=?_) (a':=?_) #[true,true,true,true,true,true,true,false,true,false,false,false,false,false,false,false] rfl rfl (any_of HT_.out (by kernel_rfl)) (fun _ _ _ h => h) (Or.inl ⟨by rfl, ?_⟩) ?_ ?_
              rotate_left;·intro w';go_simp;with_reducible rfl
              rotate_left;·simp only [Act.put, pa_, pz_, pu_, i64_w, i32_w];rfl
              refine pure_ (i:=9) (N:=some 75) (v:=?_) (a':=?_) #[true,true,true,true,true,true,true,false,true,true,false,false,false,false,false,false] rfl rfl (any_of HT_.out (by kernel_rfl)) (fun _ _ _ h => h) (Or.inl ⟨by rfl, ?_⟩) ?_ ?_
              rotate_left;·intro w';go_simp;with_reducible rfl
              rotate_left;·simp only [Act.put, pa_, pz_, pu_, i64_w, i32_w];rfl
              refine pure_ (i:=10) (N:=some 76) (v:=?_) (a':=?_) #[true,true,true,true,true,true,true,false,true,true,true,false,false,false,false,false] rfl rfl (any_of HT_.out (by kernel_rfl)) (fun _ _ _ h => h) (Or.inl ⟨by rfl, ?_⟩) ?_ ?_
              rotate_left;·intro w';go_simp;with_reducible rfl
              rotate_left;·simp only [Act.put, pa_, pz_, pu_, i64_w, i32_w];rfl
              refine take_ (i:=7) (N:=some 73) (v:=?_) (a':=?_) #[true,true,true,true,true,true,true,true,true,true,true,false,false,false,false,false] rfl rfl (take_ofW HT_.out HW_.out (by kernel_rfl)) (fun _ _ _ h => h) (Or.inl ⟨by rfl, ?_⟩) hHeld ?_ ?_
              rotate_left;·rintro w' ⟨s0, s1⟩;go_simp;with_reducible rfl
              rotate_left;·simp only [Act.put, pa_, pz_, pu_, i64_w, i32_w];rfl
              refine take_ (i:=11) (N:=some 77) (v:=?_) (a':=?_) #[true,true,true,true,true,true,true,true,true,true,true,true,false,false,false,false] rfl rfl (take_ofW HT_.out HW_.out (by kernel_rfl)) (fun _ _ _ h => h) (Or.inl ⟨by rfl, ?_⟩) hHeld ?_ ?_
              rotate_left;·rintro w' ⟨s0, s1⟩;go_simp;with_reducible rfl
              rotate_left;·simp only [Act.put, pa_, pz_, pu_, i64_w, i32_w];rfl
              refine pure_ (i:=12) (N:=some 78) (v:=?_) (a':=?_) #[true,true,true,true,true,true,true,true,true,true,true,true,true,false,false,false] rfl rfl (any_of HT_.out (by kernel_rfl)) (fun _ _ _ h => h) (Or.inl ⟨by rfl, ?_⟩) ?_ ?_
              rotate_left;·intro w';go_simp;with_reducible rfl
              rotate_left;·simp only [Act.put, pa_, pz_, pu_, i64_w, i32_w];rfl
              refine last_ (i:=13) (N:=none) #[true,true,true,true,true,true,true,true,true,true,true,true,true,true,false,false] rfl rfl (one_of HT_.out (by kernel_rfl)) (by decide) (fun K hK => ?_)
              refine skip_ (w1 := ?_) (by rfl) rfl ?_ ?_
              rotate_left
              ·go_simp
               rfl
              refine hK.out _ _ ?_
              clear hK K
              refine pure_ (i:=14) (N:=some 79) (v:=?_) (a':=?_) #[true,true,true,true,true,true,true,true,true,true,true,true,true,true,true,false] rfl rfl (any_of HT_.out (by kernel_rfl)) (fun _ _ _ h => h) (Or.inl ⟨by rfl, ?_⟩) ?_ ?_
              rotate_left;·intro w';go_simp;with_reducible rfl
              rotate_left;·simp only [Act.put, pa_, pz_, pu_, i64_w, i32_w];rfl
              refine last_ (i:=15) (N:=none) #[true,true,true,true,true,true,true,true,true,true,true,true,true,true,true,true] rfl rfl (one_of HT_.out (by kernel_rfl)) (by decide) (fun K hK => ?_)
              refine skip_ (w1 := ?_) (by rfl) rfl ?_ ?_
              rotate_left
              ·go_simp
               rfl
              refine hK.out _ _ ?_
              clear hK K
              refine done_ (done_of HT_.out (by kernel_rfl)) ?_
              try go_wp2
              go_ret2
              exact ⟨by first | rfl | (simp [errW_none, errW_some] <;> rfl) | (simp [*, errW_none, errW_some] <;> rfl), (by first | exact (by (with_reducible repeat (first | apply Kd.R_alloc | apply Kd.R_drewN | apply Kd.R_drew)); exact HQ46.out) | (simp only [hl0_10]; exact (by (with_reducible repeat (first | apply Kd.R_alloc | apply Kd.R_drewN | apply Kd.R_drew)); exact HQ46.out))), by repeat (first | (with_reducible first | exact HB.out | apply below_alloc | apply pw_below_drewN | apply below_drew1 | refine below_set ?_ GB9.out | refine below_set ?_ GB9.out) | exact HB.out), by repeat (first | (with_reducible first | exact HK.out | apply Kept.alloc | apply Kept.drewN | apply Kept.drew | refine Kept.setCell ?_ HMgo9.out _ | refine Kept.setCell ?_ HMgo9.out _) | exact HK.out)⟩
             ·rw [if_neg c41] at H
              exact absurd H (by simp)
            ·rw [if_neg c40] at H
             exact absurd H (by simp)
           ·rw [if_neg c39] at H
            exact absurd H (by simp)
          ·rw [if_neg c38] at H
           exact absurd H (by simp)
         ·rw [if_neg c37] at H
          have c37b0 : decide (x11_25 < x10_10) = false := decide_eq_false c37
          clear c37
          by_cases c47 : 0 ≤ x11_25
          ·rw [if_pos c47] at H
           have c47b0 : decide (0 ≤ x11_25) = true := decide_eq_true c47
           clear c47
           by_cases c48 : x11_25 < (y207.length : Int)
           ·rw [if_pos c48] at H
            have c48b0 : decide (x11_25 < (y207.length : Int)) = true := decide_eq_true c48
            clear c48
            by_cases c49 : 0 ≤ x10_10
            ·rw [if_pos c49] at H
             have c49b0 : decide (0 ≤ x10_10) = true := decide_eq_true c49
             clear c49
             by_cases c50 : x10_10 < (y207.length : Int)
             ·rw [if_pos c50] at H
              have c50b0 : decide (x10_10 < (y207.length : Int)) = true := decide_eq_true c50
              clear c50
              obtain ⟨y220, hy220⟩ : ∃ y_ : List Int, y_ = (y207.set (x10_10 : Int).toNat (rd y207 x11_25)) := ⟨_, rfl⟩
              replace H : (slices_partitionOrdered_uint32.l2 kj25 (y220.set (x11_25 : Int).toNat (rd y207 x10_10)) a1 (wrap64 (x10_10 + 1)) (wrap64 (x11_25 - 1))) = some (r1, r2, r3) := by first | (rw [hy220]; with_reducible exact H) | (have H2_ := (Option.bind_some _ _).symm.trans H; rw [hy220]; with_reducible exact H2_) | (have H2_ := (Option.bind_some _ _).symm.trans H; with_reducible exact H2_) | with_reducible exact H | (rw [hy220]; exact H) | exact H
              have Ny220 := Aside0.mk hy220
              clear hy220
              obtain ⟨y221, hy221⟩ : ∃ y_ : List Int, y_ = (y220.set (x11_25 : Int).toNat (rd y207 x10_10)) := ⟨_, rfl⟩
              replace H : (slices_partitionOrdered_uint32.l2 kj25 y221 a1 (wrap64 (x10_10 + 1)) (wrap64 (x11_25 - 1))) = some (r1, r2, r3) := by first | (rw [hy221]; with_reducible exact H) | (have H2_ := (Option.bind_some _ _).symm.trans H; rw [hy221]; with_reducible exact H2_) | (have H2_ := (Option.bind_some _ _).symm.trans H; with_reducible exact H2_) | with_reducible exact H | (rw [hy221]; exact H) | exact H
              have Ny221 := Aside0.mk hy221
              clear hy221
              have H' := Aside0.mk H
              clear H
              try go_wp2
              have n0_ := Aside0.mk (Kd.R_drew HO_0.out)
              have n1_ := Aside0.mk (Kept.drew HK.out)
              have n2_ := Aside0.mk (below_drew1 HB.out)
              clear HO_0
              clear HK
              clear HB
              have HO_0 := n0_
              have HK := n1_
              have HB := n2_
              clear n0_ n1_ n2_
              have p218 : 0 ≤ (x11_25 : Int) := of_decide_eq_true (by first | (with_reducible assumption) | assumption)
              have q218 : x11_25 < (y207.length : Int) := of_decide_eq_true (by first | (with_reducible assumption) | assumption)
              obtain ⟨ad218, e218, hx218_0⟩ := Kd.at_int (Kd.R_reads' HO_0.out).2.2 x11_25 p218 q218
              obtain rfl : (⟨go9, 0, none⟩ : Addr) = ad218 := (by injection e218)
              (first | simp only [add_plain] at hx218_0 | simp only [add_at] at hx218_0 | simp only [Addr.add, Nat.zero_add] at hx218_0 | skip)
              replace p218 := eq_true p218
              replace q218 := eq_true q218
              have p219 : 0 ≤ (x10_10 : Int) := of_decide_eq_true (by first | (with_reducible assumption) | assumption)
              have q219 : x10_10 < (y207.length : Int) := of_decide_eq_true (by first | (with_reducible assumption) | assumption)
              obtain ⟨ad219, e219, hx219_0⟩ := Kd.at_int (Kd.R_reads' HO_0.out).2.2 x10_10 p219 q219
              obtain rfl : (⟨go9, 0, none⟩ : Addr) = ad219 := (by injection e219)
              (first | simp only [add_plain] at hx219_0 | simp only [add_at] at hx219_0 | simp only [Addr.add, Nat.zero_add] at hx219_0 | skip)
              replace p219 := eq_true p219
              replace q219 := eq_true q219
              have p51 : 0 ≤ (x10_10 : Int) := of_decide_eq_true (by first | (with_reducible assumption) | assumption)
              have q51 : (x10_10 : Int) < ((y207.length : Int) : Int) := of_decide_eq_true (by first | (with_reducible assumption) | assumption)
              obtain ⟨hx51_0, hf51_0⟩ := Kd.R_celln 0 HO_0.out (x10_10 : Int) p51 q51
              replace p51 := eq_true p51
              replace q51 := eq_true q51
              have HP54 := Kd.R_putn HO_0.out (x10_10 : Int) (rd y207 x11_25)
              rw [← Ny220.out] at HP54
              have HQ54 := Aside0.mk HP54
              clear HP54
              have p52 : 0 ≤ (x11_25 : Int) := of_decide_eq_true (by first | (with_reducible assumption) | assumption)
              have q52 : (x11_25 : Int) < ((y207.length : Int) : Int) := of_decide_eq_true (by first | (with_reducible assumption) | assumption)
              obtain ⟨hx52_0, hf52_0⟩ := Kd.R_celln 0 HQ54.out (x11_25 : Int) p52 q52
              replace p52 := eq_true p52
              replace q52 := eq_true q52
              have HP55 := Kd.R_putn HQ54.out (x11_25 : Int) (rd y207 x10_10)
              rw [← Ny221.out] at HP55
              have HQ55 := Aside0.mk HP55
              clear HP55
              refine start_ (n:=16) (S := fun w' => w'.cell? ⟨go9, (x11_25).toNat, none⟩ = some (.int .u32 (rd y207 x11_25)) ∧ w'.cell? ⟨go9, (x10_10).toNat, none⟩ = some (.int .u32 (rd y207 x10_10))) (ds := [13, 15]) #[false,false,false,false,false,false,false,false,false,false,false,false,false,false,false,false] (by kernel_rfl) rfl rfl ⟨hx218_0, hx219_0⟩ (fun hHeld => ?_); refine with_tabW slices_partitionOrdered_uint32.tab10 slices_partitionOrdered_uint32.bits10 (fun HT_ HW_ => ?_)
              generalize wc.drew = w53 at HO_0 HK HB HQ54 HQ55 hf51_0 hf52_0 hx218_0 hx219_0 hx51_0 hx52_0 hHeld ⊢
              refine pure_ (i:=0) (N:=some 81) (v:=?_) (a':=?_) #[true,false,false,false,false,false,false,false,false,false,false,false,false,false,false,false] rfl rfl (any_of HT_.out (by kernel_rfl)) (fun _ _ _ h => h) (Or.inl ⟨by rfl, ?_⟩) ?_ ?_
              rotate_left;·intro w';go_simp;with_reducible rfl
              rotate_left;·simp only [Act.put, pa_, pz_, pu_, i64_w, i32_w];rfl
              refine pure_ (i:=1) (N:=some 82) (v:=?_) (a':=?_) #[true,true,false,false,false,false,false,false,false,false,false,false,false,false,false,false] rfl rfl (any_of HT_.out (by kernel_rfl)) (fun _ _ _ h => h) (Or.inl ⟨by rfl, ?_⟩) ?_ ?_
              rotate_left;·intro w';go_simp;with_reducible rfl
              rotate_left;·simp only [Act.put, pa_, pz_, pu_, i64_w, i32_w];rfl
              refine pure_ (i:=2) (N:=some 83) (v:=?_) (a':=?_) #[true,true,true,false,false,false,false,false,false,false,false,false,false,false,false,false] rfl rfl (any_of HT_.out (by kernel_rfl)) (fun _ _ _ h => h) (Or.inl ⟨by rfl, ?_⟩) ?_ ?_
              rotate_left;·intro w';go_simp;with_reducible rfl
              rotate_left;·simp only [Act.put, pa_, pz_, pu_, i64_w, i32_w];rfl
              refine pure_ (i:=3) (N:=some 84) (v:=?_) (a':=?_) #[true,true,true,true,false,false,false,false,false,false,false,false,false,false,false,false] rfl rfl (any_of HT_.out (by kernel_rfl)) (fun _ _ _ h => h) (Or.inl ⟨by rfl, ?_⟩) ?_ ?_
              rotate_left;·intro w';go_simp;with_reducible rfl
              rotate_left;·simp only [Act.put, pa_, pz_, pu_, i64_w, i32_w];rfl
              refine pure_ (i:=4) (N:=some 85) (v:=?_) (a':=?_) #[true,true,true,true,true,false,false,false,false,false,false,false,false,false,false,false] rfl rfl (any_of HT_.out (by kernel_rfl)) (fun _ _ _ h => h) (Or.inl ⟨by rfl, ?_⟩) ?_ ?_
              rotate_left;·intro w';go_simp;with_reducible rfl
              rotate_left;·simp only [Act.put, pa_, pz_, pu_, i64_w, i32_w];rfl
              refine pure_ (i:=5) (N:=some 86) (v:=?_) (a':=?_) #[true,true,true,true,true,true,false,false,false,false,false,false,false,false,false,false] rfl rfl (any_of HT_.out (by kernel_rfl)) (fun _ _ _ h => h) (Or.inl ⟨by rfl, ?_⟩) ?_ ?_
              rotate_left;·intro w';go_simp;with_reducible rfl
              rotate_left;·simp only [Act.put, pa_, pz_, pu_, i64_w, i32_w];rfl
              refine pure_ (i:=6) (N:=some 87) (v:=?_) (a':=?_) #[true,true,true,true,true,true,true,false,false,false,false,false,false,false,false,false] rfl rfl (any_of HT_.out (by kernel_rfl)) (fun _ _ _ h => h) (Or.inl ⟨by rfl, ?_⟩) ?_ ?_
              rotate_left;·intro w';go_simp;with_reducible rfl
              rotate_left;·simp only [Act.put, pa_, pz_, pu_, i64_w, i32_w];rfl
              refine pure_ (i:=8) (N:=some 89) (v:=?_) (a':=?_) #[true,true,true,true,true,true,true,false,true,false,false,false,false,false,false,false] rfl rfl (any_of HT_.out (by kernel_rfl)) (fun _ _ _ h => h) (Or.inl ⟨by rfl, ?_⟩) ?_ ?_
              rotate_left;·intro w';go_simp;with_reducible rfl
              rotate_left;·simp only [Act.put, pa_, pz_, pu_, i64_w, i32_w];rfl
              refine pure_ (i:=9) (N:=some 90) (v:=?_) (a':=?_) #[true,true,true,true,true,true,true,false,true,true,false,false,false,false,false,false] rfl rfl (any_of HT_.out (by kernel_rfl)) (fun _ _ _ h => h) (Or.inl ⟨by rfl, ?_⟩) ?_ ?_
              rotate_left;·intro w';go_simp;with_reducible rfl
              rotate_left;·simp only [Act.put, pa_, pz_, pu_, i64_w, i32_w];rfl
              refine pure_ (i:=10) (N:=some 91) (v:=?_) (a':=?_) #[true,true,true,true,true,true,true,false,true,true,true,false,false,false,false,false] rfl rfl (any_of HT_.out (by kernel_rfl)) (fun _ _ _ h => h) (Or.inl ⟨by rfl, ?_⟩) ?_ ?_
              rotate_left;·intro w';go_simp;with_reducible rfl
              rotate_left;·simp only [Act.put, pa_, pz_, pu_, i64_w, i32_w];rfl
              refine take_ (i:=7) (N:=some 88) (v:=?_) (a':=?_) #[true,true,true,true,true,true,true,true,true,true,true,false,false,false,false,false] rfl rfl (take_ofW HT_.out HW_.out (by kernel_rfl)) (fun _ _ _ h => h) (Or.inl ⟨by rfl, ?_⟩) hHeld ?_ ?_
              rotate_left;·rintro w' ⟨s0, s1⟩;go_simp;with_reducible rfl
              rotate_left;·simp only [Act.put, pa_, pz_, pu_, i64_w, i32_w];rfl
              refine take_ (i:=11) (N:=some 92) (v:=?_) (a':=?_) #[true,true,true,true,true,true,true,true,true,true,true,true,false,false,false,false] rfl rfl (take_ofW HT_.out HW_.out (by kernel_rfl)) (fun _ _ _ h => h) (Or.inl ⟨by rfl, ?_⟩) hHeld ?_ ?_
              rotate_left;·rintro w' ⟨s0, s1⟩;go_simp;with_reducible rfl
              rotate_left;·simp only [Act.put, pa_, pz_, pu_, i64_w, i32_w];rfl
              refine pure_ (i:=12) (N:=some 93) (v:=?_) (a':=?_) #[true,true,true,true,true,true,true,true,true,true,true,true,true,false,false,false] rfl rfl (any_of HT_.out (by kernel_rfl)) (fun _ _ _ h => h) (Or.inl ⟨by rfl, ?_⟩) ?_ ?_
              rotate_left;·intro w';go_simp;with_reducible rfl
              rotate_left;·simp only [Act.put, pa_, pz_, pu_, i64_w, i32_w];rfl
              refine last_ (i:=13) (N:=none) #[true,true,true,true,true,true,true,true,true,true,true,true,true,true,false,false] rfl rfl (one_of HT_.out (by kernel_rfl)) (by decide) (fun K hK => ?_)
              refine skip_ (w1 := ?_) (by rfl) rfl ?_ ?_
              rotate_left
              ·go_simp
               rfl
              refine hK.out _ _ ?_
              clear hK K
              refine pure_ (i:=14) (N:=some 94) (v:=?_) (a':=?_) #[true,true,true,true,true,true,true,true,true,true,true,true,true,true,true,false] rfl rfl (any_of HT_.out (by kernel_rfl)) (fun _ _ _ h => h) (Or.inl ⟨by rfl, ?_⟩) ?_ ?_
              rotate_left;·intro w';go_simp;with_reducible rfl
              rotate_left;·simp only [Act.put, pa_, pz_, pu_, i64_w, i32_w];rfl
              refine last_ (i:=15) (N:=none) #[true,true,true,true,true,true,true,true,true,true,true,true,true,true,true,true] rfl rfl (one_of HT_.out (by kernel_rfl)) (by decide) (fun K hK => ?_)
              refine skip_ (w1 := ?_) (by rfl) rfl ?_ ?_
              rotate_left
              ·go_simp
               rfl
              refine hK.out _ _ ?_
              clear hK K
              refine done_ (done_of HT_.out (by kernel_rfl)) ?_
              try go_wp2
              go_loopg [10, 11] kj25 (fun kq v10 v11 w' => ∃ (x0_3 : List Int) (x10_3 : Int) (x11_3 : Int), v10 = .int .i64 x10_3 ∧ v11 = .int .i64 x11_3 ∧ Aside0 (slices_partitionOrdered_uint32.l2 kq x0_3 a1 x10_3 x11_3 = some (r1, r2, r3)) ∧ Aside0 (kq ≤ kj25) ∧ Aside0 (Kd.R (Kd.int .u32) 33 w' w0.heap.size (fun k_ => (P0_ k_ ∨ w.heap.size ≤ k_)) (.slice (some ⟨go9, 0, none⟩) y207.length co13) x0_3) ∧ Aside0 (Kept w w' (fun k_ => P0_ k_)) ∧ Aside0 (Below w0.heap.size w0 w'))
              case atStart => exact ⟨(y221), (wrap64 (x10_10 + 1)), (wrap64 (x11_25 - 1)), (by first | rfl | (simp; done) | (simp [*]; done)), (by first | rfl | (simp; done) | (simp [*]; done)), H', ⟨Nat.le_refl _⟩, ⟨by (try simp only [hl0_10]); (with_reducible repeat (first | apply Kd.R_alloc | apply Kd.R_drewN | apply Kd.R_drew)); exact HQ55.out⟩, ⟨by repeat (first | (with_reducible first | exact HK.out | apply Kept.alloc | apply Kept.drewN | apply Kept.drew | refine Kept.setCell ?_ HMgo9.out _ | refine Kept.setCell ?_ HMgo9.out _) | exact HK.out)⟩, ⟨by repeat (first | (with_reducible first | exact HB.out | apply below_alloc | apply pw_below_drewN | apply below_drew1 | refine below_set ?_ GB9.out | refine below_set ?_ GB9.out) | exact HB.out)⟩⟩
              case round =>
               clear H'
               try clear c1
               try clear p1
               try clear q1
               try clear hx1
               try clear c2
               try clear p2
               try clear q2
               try clear hx2
               try clear c3
               try clear c4
               try clear p4
               try clear q4
               try clear hx4
               try clear hf4
               try clear c5
               try clear c5b0
               try clear p5
               try clear q5
               try clear hx5
               try clear hf5
               try clear c6
               try clear c6b0
               try clear p6
               try clear c7
               try clear c7b0
               try clear c8
               try clear c8b0
               try clear p9
               try clear q9
               try clear hx9
               try clear hf9
               try clear p10
               try clear q10
               try clear hx10
               try clear hf10
               try clear c16
               try clear c16b0
               try clear c17
               try clear c17b0
               try clear c18
               try clear c18b0
               try clear c19
               try clear c19b0
               try clear c20
               try clear c20b0
               try clear p20
               try clear q20
               try clear hx20
               try clear p21
               try clear q21
               try clear hx21
               try clear c22
               try clear c27
               try clear c27b0
               try clear c28
               try clear c28b0
               try clear c29
               try clear c29b0
               try clear c30
               try clear c30b0
               try clear c31
               try clear c31b0
               try clear c33
               try clear c37
               try clear c37b0
               try clear c38
               try clear c38b0
               try clear c39
               try clear c39b0
               try clear c40
               try clear c40b0
               try clear c41
               try clear c41b0
               try clear p42
               try clear q42
               try clear hx42
               try clear hf42
               try clear p43
               try clear q43
               try clear hx43
               try clear hf43
               try clear c47
               try clear c47b0
               try clear c48
               try clear c48b0
               try clear c49
               try clear c49b0
               try clear c50
               try clear c50b0
               try clear p51
               try clear q51
               try clear hx51
               try clear hf51
               try clear p52
               try clear q52
               try clear hx52
               try clear hf52
               try clear hx10_0
               try clear hx204_0
               try clear hx205_0
               try clear hx208_0
               try clear hx209_0
               try clear hx211_0
               try clear hx212_0
               try clear hx214_0
               try clear hx215_0
               try clear hx218_0
               try clear hx219_0
               try clear hx42_0
               try clear hx43_0
               try clear hx51_0
               try clear hx52_0
               try clear hx9_0
               try clear p1
               try clear p10
               try clear p2
               try clear p20
               try clear p204
               try clear p205
               try clear p208
               try clear p209
               try clear p21
               try clear p211
               try clear p212
               try clear p214
               try clear p215
               try clear p218
               try clear p219
               try clear p42
               try clear p43
               try clear p51
               try clear p52
               try clear p6
               try clear p9
               try clear q1
               try clear q10
               try clear q2
               try clear q20
               try clear q204
               try clear q205
               try clear q208
               try clear q209
               try clear q21
               try clear q211
               try clear q212
               try clear q214
               try clear q215
               try clear q218
               try clear q219
               try clear q42
               try clear q43
               try clear q51
               try clear q52
               try clear q9
               obtain ⟨x0_3, x10_3, x11_3, rfl, rfl, HA, HK3, HO_0, HK, HB⟩ := hrel
               have hl0_3 := (Kd.R_reads' HO_0.out).1
               rw [hl0_3] at HO_0
               (try simp only [hl0_3])
               cases gk with
               | zero => exact absurd HA.out (by simp [slices_partitionOrdered_uint32.l2])
               | succ k3 =>
                have H := HA.out
                clear HA
                simp only [slices_partitionOrdered_uint32.l2] at H
                have HC56 := Aside0.mk H
                clear H
                go_upto_block 6 with (fail)
                go_cut [10] (fun v10 wc => ∃ (kq : Nat) (x10_55 : Int), v10 = .int .i64 x10_55 ∧ Aside0 (slices_partitionOrdered_uint32.j6 kq x0_3 a1 x10_55 x11_3 = some (r1, r2, r3)) ∧ Aside0 (kq ≤ k3) ∧ Aside0 (Kd.R (Kd.int .u32) 33 wc w0.heap.size (fun k_ => (P0_ k_ ∨ w.heap.size ≤ k_)) (.slice (some ⟨go9, 0, none⟩) x0_3.length co13) x0_3) ∧ Aside0 (Kept w wc (fun k_ => P0_ k_)) ∧ Aside0 (Below w0.heap.size w0 wc))
                case first =>
                 have H := HC56.out
                 clear HC56
                 have H' := Aside0.mk H
                 clear H
                 go_wp2
                 go_loopg [10] k3 (fun kq v10 w' => ∃ (x10_4 : Int), v10 = .int .i64 x10_4 ∧ Aside0 (slices_partitionOrdered_uint32.l3 kq x0_3 a1 x10_4 x11_3 = some (r1, r2, r3)) ∧ Aside0 (kq ≤ k3) ∧ Aside0 (Kd.R (Kd.int .u32) 33 w' w0.heap.size (fun k_ => (P0_ k_ ∨ w.heap.size ≤ k_)) (.slice (some ⟨go9, 0, none⟩) x0_3.length co13) x0_3) ∧ Aside0 (Kept w w' (fun k_ => P0_ k_)) ∧ Aside0 (Below w0.heap.size w0 w'))
                 case atStart => exact ⟨(x10_3), (by first | rfl | (simp; done) | (simp [*]; done)), H', ⟨Nat.le_refl _⟩, ⟨by (try simp only [hl0_10]); (try simp only [hl0_3]); (with_reducible repeat (first | apply Kd.R_alloc | apply Kd.R_drewN | apply Kd.R_drew)); exact HO_0.out⟩, ⟨by repeat (first | (with_reducible first | exact HK.out | apply Kept.alloc | apply Kept.drewN | apply Kept.drew) | exact HK.out)⟩, ⟨by repeat (first | (with_reducible first | exact HB.out | apply below_alloc | apply pw_below_drewN | apply below_drew1) | exact HB.out)⟩⟩
                 case round =>
                  clear H'
                  try clear c1
                  try clear p1
                  try clear q1
                  try clear hx1
                  try clear c2
                  try clear p2
                  try clear q2
                  try clear hx2
                  try clear c3
                  try clear c4
                  try clear p4
                  try clear q4
                  try clear hx4
                  try clear hf4
                  try clear c5
                  try clear c5b0
                  try clear p5
                  try clear q5
                  try clear hx5
                  try clear hf5
                  try clear c6
                  try clear c6b0
                  try clear p6
                  try clear c7
                  try clear c7b0
                  try clear c8
                  try clear c8b0
                  try clear p9
                  try clear q9
                  try clear hx9
                  try clear hf9
                  try clear p10
                  try clear q10
                  try clear hx10
                  try clear hf10
                  try clear c16
                  try clear c16b0
                  try clear c17
                  try clear c17b0
                  try clear c18
                  try clear c18b0
                  try clear c19
                  try clear c19b0
                  try clear c20
                  try clear c20b0
                  try clear p20
                  try clear q20
                  try clear hx20
                  try clear p21
                  try clear q21
                  try clear hx21
                  try clear c22
                  try clear c27
                  try clear c27b0
                  try clear c28
                  try clear c28b0
                  try clear c29
                  try clear c29b0
                  try clear c30
                  try clear c30b0
                  try clear c31
                  try clear c31b0
                  try clear c33
                  try clear c37
                  try clear c37b0
                  try clear c38
                  try clear c38b0
                  try clear c39
                  try clear c39b0
                  try clear c40
                  try clear c40b0
                  try clear c41
                  try clear c41b0
                  try clear p42
                  try clear q42
                  try clear hx42
                  try clear hf42
                  try clear p43
                  try clear q43
                  try clear hx43
                  try clear hf43
                  try clear c47
                  try clear c47b0
                  try clear c48
                  try clear c48b0
                  try clear c49
                  try clear c49b0
                  try clear c50
                  try clear c50b0
                  try clear p51
                  try clear q51
                  try clear hx51
                  try clear hf51
                  try clear p52
                  try clear q52
                  try clear hx52
                  try clear hf52
                  try clear hx10_0
                  try clear hx204_0
                  try clear hx205_0
                  try clear hx208_0
                  try clear hx209_0
                  try clear hx211_0
                  try clear hx212_0
                  try clear hx214_0
                  try clear hx215_0
                  try clear hx218_0
                  try clear hx219_0
                  try clear hx42_0
                  try clear hx43_0
                  try clear hx51_0
                  try clear hx52_0
                  try clear hx9_0
                  try clear p1
                  try clear p10
                  try clear p2
                  try clear p20
                  try clear p204
                  try clear p205
                  try clear p208
                  try clear p209
                  try clear p21
                  try clear p211
                  try clear p212
                  try clear p214
                  try clear p215
                  try clear p218
                  try clear p219
                  try clear p4
                  try clear p42
                  try clear p43
                  try clear p5
                  try clear p51
                  try clear p52
                  try clear p6
                  try clear p9
                  try clear q1
                  try clear q10
                  try clear q2
                  try clear q20
                  try clear q204
                  try clear q205
                  try clear q208
                  try clear q209
                  try clear q21
                  try clear q211
                  try clear q212
                  try clear q214
                  try clear q215
                  try clear q218
                  try clear q219
                  try clear q4
                  try clear q42
                  try clear q43
                  try clear q5
                  try clear q51
                  try clear q52
                  try clear q9
                  obtain ⟨x10_4, rfl, HA, HK4, HO_0, HK, HB⟩ := hrel
                  cases gk with
                  | zero => exact absurd HA.out (by simp [slices_partitionOrdered_uint32.l3])
                  | succ k4 =>
                   have H := HA.out
                   clear HA
                   simp only [slices_partitionOrdered_uint32.l3] at H
                   by_cases c57 : x10_4 ≤ x11_3
                   ·rw [if_pos c57] at H
                    have c57b0 : decide (x10_4 ≤ x11_3) = true := decide_eq_true c57
                    clear c57
                    (first | rw [c57b0] | (simp only [i64_w, i32_w]; rw [c57b0]) | skip)
                    by_cases c58 : 0 ≤ x10_4
                    ·rw [if_pos c58] at H
                     have c58b0 : decide (0 ≤ x10_4) = true := decide_eq_true c58
                     clear c58
                     by_cases c59 : x10_4 < (x0_3.length : Int)
                     ·rw [if_pos c59] at H
                      have c59b0 : decide (x10_4 < (x0_3.length : Int)) = true := decide_eq_true c59
                      clear c59
                      by_cases c60 : 0 ≤ a1
                      ·rw [if_pos c60] at H
                       have c60b0 : decide (0 ≤ a1) = true := decide_eq_true c60
                       clear c60
                       by_cases c61 : a1 < (x0_3.length : Int)
                       ·rw [if_pos c61] at H
                        have c61b0 : decide (a1 < (x0_3.length : Int)) = true := decide_eq_true c61
                        clear c61
                        replace H := Option.bind_eq_some_iff.mp H
                        obtain ⟨t224, A620, H⟩ := H
                        replace H : (if t224 = true then (slices_partitionOrdered_uint32.l3 k4 x0_3 a1 (wrap64 (x10_4 + 1)) x11_3) else (slices_partitionOrdered_uint32.j6 k4 x0_3 a1 x10_4 x11_3)) = some (r1, r2, r3) := H
                        have A62 := Aside0.mk A620
                        clear A620
                        by_cases c63 : t224 = true
                        ·subst c63
                         have H1 : (slices_partitionOrdered_uint32.l3 k4 x0_3 a1 (wrap64 (x10_4 + 1)) x11_3) = some (r1, r2, r3) := by rw [if_pos rfl] at H; exact H
                         clear H
                         have H := H1
                         clear H1
                         have H' := Aside0.mk H
                         clear H
                         try go_wp2
                         have n0_ := Aside0.mk (Kd.R_drew HO_0.out)
                         have n1_ := Aside0.mk (Kept.drew HK.out)
                         have n2_ := Aside0.mk (below_drew1 HB.out)
                         clear HO_0
                         clear HK
                         clear HB
                         have HO_0 := n0_
                         have HK := n1_
                         have HB := n2_
                         clear n0_ n1_ n2_
                         have p222 : 0 ≤ (x10_4 : Int) := of_decide_eq_true (by first | (with_reducible assumption) | assumption)
                         have q222 : x10_4 < (x0_3.length : Int) := of_decide_eq_true (by first | (with_reducible assumption) | assumption)
                         obtain ⟨ad222, e222, hx222_0⟩ := Kd.at_int (Kd.R_reads' HO_0.out).2.2 x10_4 p222 q222
                         obtain rfl : (⟨go9, 0, none⟩ : Addr) = ad222 := (by injection e222)
                         (first | simp only [add_plain] at hx222_0 | simp only [add_at] at hx222_0 | simp only [Addr.add, Nat.zero_add] at hx222_0 | skip)
                         replace p222 := eq_true p222
                         replace q222 := eq_true q222
                         have p223 : 0 ≤ (a1 : Int) := of_decide_eq_true (by first | (with_reducible assumption) | assumption)
                         have q223 : a1 < (x0_3.length : Int) := of_decide_eq_true (by first | (with_reducible assumption) | assumption)
                         obtain ⟨ad223, e223, hx223_0⟩ := Kd.at_int (Kd.R_reads' HO_0.out).2.2 a1 p223 q223
                         obtain rfl : (⟨go9, 0, none⟩ : Addr) = ad223 := (by injection e223)
                         (first | simp only [add_plain] at hx223_0 | simp only [add_at] at hx223_0 | simp only [Addr.add, Nat.zero_add] at hx223_0 | skip)
                         replace p223 := eq_true p223
                         replace q223 := eq_true q223
                         refine start_ (n:=14) (S := fun w' => w'.cell? ⟨go9, (x10_4).toNat, none⟩ = some (.int .u32 (rd x0_3 x10_4)) ∧ w'.cell? ⟨go9, (a1).toNat, none⟩ = some (.int .u32 (rd x0_3 a1))) (ds := []) #[false,false,false,false,false,false,false,false,false,false,false,false,false,false] (by kernel_rfl) rfl rfl ⟨hx222_0, hx223_0⟩ (fun hHeld => ?_); refine with_tabW slices_partitionOrdered_uint32.tab13 slices_partitionOrdered_uint32.bits13 (fun HT_ HW_ => ?_)
                         generalize wr.drew = w64 at HO_0 HK HB hx222_0 hx223_0 hHeld ⊢
                         refine pure_ (i:=0) (N:=some 99) (v:=?_) (a':=?_) #[true,false,false,false,false,false,false,false,false,false,false,false,false,false] rfl rfl (any_of HT_.out (by kernel_rfl)) (fun _ _ _ h => h) (Or.inl ⟨by rfl, ?_⟩) ?_ ?_
                         rotate_left;·intro w';go_simp;with_reducible rfl
                         rotate_left;·simp only [Act.put, pa_, pz_, pu_, i64_w, i32_w];rfl
                         refine pure_ (i:=1) (N:=some 100) (v:=?_) (a':=?_) #[true,true,false,false,false,false,false,false,false,false,false,false,false,false] rfl rfl (any_of HT_.out (by kernel_rfl)) (fun _ _ _ h => h) (Or.inl ⟨by rfl, ?_⟩) ?_ ?_
                         rotate_left;·intro w';go_simp;with_reducible rfl
                         rotate_left;·simp only [Act.put, pa_, pz_, pu_, i64_w, i32_w];rfl
                         refine pure_ (i:=2) (N:=some 101) (v:=?_) (a':=?_) #[true,true,true,false,false,false,false,false,false,false,false,false,false,false] rfl rfl (any_of HT_.out (by kernel_rfl)) (fun _ _ _ h => h) (Or.inl ⟨by rfl, ?_⟩) ?_ ?_
                         rotate_left;·intro w';go_simp;with_reducible rfl
                         rotate_left;·simp only [Act.put, pa_, pz_, pu_, i64_w, i32_w];rfl
                         refine pure_ (i:=3) (N:=some 102) (v:=?_) (a':=?_) #[true,true,true,true,false,false,false,false,false,false,false,false,false,false] rfl rfl (any_of HT_.out (by kernel_rfl)) (fun _ _ _ h => h) (Or.inl ⟨by rfl, ?_⟩) ?_ ?_
                         rotate_left;·intro w';go_simp;with_reducible rfl
                         rotate_left;·simp only [Act.put, pa_, pz_, pu_, i64_w, i32_w];rfl
                         refine pure_ (i:=4) (N:=some 103) (v:=?_) (a':=?_) #[true,true,true,true,true,false,false,false,false,false,false,false,false,false] rfl rfl (any_of HT_.out (by kernel_rfl)) (fun _ _ _ h => h) (Or.inl ⟨by rfl, ?_⟩) ?_ ?_
                         rotate_left;·intro w';go_simp;with_reducible rfl
                         rotate_left;·simp only [Act.put, pa_, pz_, pu_, i64_w, i32_w];rfl
                         refine pure_ (i:=5) (N:=some 104) (v:=?_) (a':=?_) #[true,true,true,true,true,true,false,false,false,false,false,false,false,false] rfl rfl (any_of HT_.out (by kernel_rfl)) (fun _ _ _ h => h) (Or.inl ⟨by rfl, ?_⟩) ?_ ?_
                         rotate_left;·intro w';go_simp;with_reducible rfl
                         rotate_left;·simp only [Act.put, pa_, pz_, pu_, i64_w, i32_w];rfl
                         refine pure_ (i:=6) (N:=some 105) (v:=?_) (a':=?_) #[true,true,true,true,true,true,true,false,false,false,false,false,false,false] rfl rfl (any_of HT_.out (by kernel_rfl)) (fun _ _ _ h => h) (Or.inl ⟨by rfl, ?_⟩) ?_ ?_
                         rotate_left;·intro w';go_simp;with_reducible rfl
                         rotate_left;·simp only [Act.put, pa_, pz_, pu_, i64_w, i32_w];rfl
                         refine pure_ (i:=8) (N:=some 107) (v:=?_) (a':=?_) #[true,true,true,true,true,true,true,false,true,false,false,false,false,false] rfl rfl (any_of HT_.out (by kernel_rfl)) (fun _ _ _ h => h) (Or.inl ⟨by rfl, ?_⟩) ?_ ?_
                         rotate_left;·intro w';go_simp;with_reducible rfl
                         rotate_left;·simp only [Act.put, pa_, pz_, pu_, i64_w, i32_w];rfl
                         refine pure_ (i:=9) (N:=some 108) (v:=?_) (a':=?_) #[true,true,true,true,true,true,true,false,true,true,false,false,false,false] rfl rfl (any_of HT_.out (by kernel_rfl)) (fun _ _ _ h => h) (Or.inl ⟨by rfl, ?_⟩) ?_ ?_
                         rotate_left;·intro w';go_simp;with_reducible rfl
                         rotate_left;·simp only [Act.put, pa_, pz_, pu_, i64_w, i32_w];rfl
                         refine pure_ (i:=10) (N:=some 109) (v:=?_) (a':=?_) #[true,true,true,true,true,true,true,false,true,true,true,false,false,false] rfl rfl (any_of HT_.out (by kernel_rfl)) (fun _ _ _ h => h) (Or.inl ⟨by rfl, ?_⟩) ?_ ?_
                         rotate_left;·intro w';go_simp;with_reducible rfl
                         rotate_left;·simp only [Act.put, pa_, pz_, pu_, i64_w, i32_w];rfl
                         refine take_ (i:=7) (N:=some 106) (v:=?_) (a':=?_) #[true,true,true,true,true,true,true,true,true,true,true,false,false,false] rfl rfl (take_ofW HT_.out HW_.out (by kernel_rfl)) (fun _ _ _ h => h) (Or.inl ⟨by rfl, ?_⟩) hHeld ?_ ?_
                         rotate_left;·rintro w' ⟨s0, s1⟩;go_simp;with_reducible rfl
                         rotate_left;·simp only [Act.put, pa_, pz_, pu_, i64_w, i32_w];rfl
                         refine take_ (i:=11) (N:=some 110) (v:=?_) (a':=?_) #[true,true,true,true,true,true,true,true,true,true,true,true,false,false] rfl rfl (take_ofW HT_.out HW_.out (by kernel_rfl)) (fun _ _ _ h => h) (Or.inl ⟨by rfl, ?_⟩) hHeld ?_ ?_
                         rotate_left;·rintro w' ⟨s0, s1⟩;go_simp;with_reducible rfl
                         rotate_left;·simp only [Act.put, pa_, pz_, pu_, i64_w, i32_w];rfl
                         refine one_ (i:=12) (N:=some 111) #[true,true,true,true,true,true,true,true,true,true,true,true,true,false] rfl rfl (one_of HT_.out (by kernel_rfl)) (by decide) (fun K hK => ?_)
                         refine goes_ Tryd.func57 (by kernel_rfl) rfl #[.int .u32 (rd x0_3 x10_4), .int .u32 (rd x0_3 a1)] (by rfl) rfl rfl (by (try simp only [List.map_toArray, List.map_cons, List.map_nil]); first | done | rfl | (simp only [List.length_drop, List.length_take]; rfl)) ?_
                         with_reducible refine (cmp_Less_uint32.calls (rd x0_3 x10_4) (rd x0_3 a1) true _ A62.out).mono ?_
                         rintro e w' ⟨rfl, ⟨nd, rfl⟩⟩
                         refine ⟨_, rfl, ?_⟩
                         refine hK.out _ _ ⟨hHeld.1, hHeld.2⟩ (fun hHeld => ?_)
                         clear hK K
                         refine norm_ (a' := ?_) ?_ ?_
                         rotate_left
                         ·show Act.put _ (some 111) _ = _
                          simp only [Act.put, List.setIfInBounds_toArray, List.set_cons_zero, List.set_cons_succ, i64_w, i32_w]
                          rfl
                         refine pure_ (i:=13) (N:=some 112) (v:=?_) (a':=?_) #[true,true,true,true,true,true,true,true,true,true,true,true,true,true] rfl rfl (any_of HT_.out (by kernel_rfl)) (fun _ _ _ h => h) (Or.inl ⟨by rfl, ?_⟩) ?_ ?_
                         rotate_left;·intro w';go_simp;with_reducible rfl
                         rotate_left;·simp only [Act.put, pa_, pz_, pu_, i64_w, i32_w];rfl
                         refine done_ (done_of HT_.out (by kernel_rfl)) ?_
                         try go_wp2
                         go_roundg k4
                         case measure => have := HJ10.out; have := HJ25.out; have := HK3.out; have := HK4.out; omega
                         case rel => exact ⟨(wrap64 (x10_4 + 1)), (by first | rfl | (simp; done) | (simp [*]; done)), H', ⟨by have := HJ10.out; have := HJ25.out; have := HK3.out; have := HK4.out; omega⟩, ⟨by (try simp only [hl0_10]); (try simp only [hl0_3]); (with_reducible repeat (first | apply Kd.R_alloc | apply Kd.R_drewN | apply Kd.R_drew)); exact HO_0.out⟩, ⟨by repeat (first | (with_reducible first | exact HK.out | apply Kept.alloc | apply Kept.drewN | apply Kept.drew) | exact HK.out)⟩, ⟨by repeat (first | (with_reducible first | exact HB.out | apply below_alloc | apply pw_below_drewN | apply below_drew1) | exact HB.out)⟩⟩
                        ·replace c63 := Bool.eq_false_iff.mpr c63
                         subst c63
                         have H1 : (slices_partitionOrdered_uint32.j6 k4 x0_3 a1 x10_4 x11_3) = some (r1, r2, r3) := by rw [if_neg (show ¬ (false = true) by decide)] at H; exact H
                         clear H
                         have H := H1
                         clear H1
                         have H' := Aside0.mk H
                         clear H
                         try go_wp2
                         have n0_ := Aside0.mk (Kd.R_drew HO_0.out)
                         have n1_ := Aside0.mk (Kept.drew HK.out)
                         have n2_ := Aside0.mk (below_drew1 HB.out)
                         clear HO_0
                         clear HK
                         clear HB
                         have HO_0 := n0_
                         have HK := n1_
                         have HB := n2_
                         clear n0_ n1_ n2_
                         have p222 : 0 ≤ (x10_4 : Int) := of_decide_eq_true (by first | (with_reducible assumption) | assumption)
                         have q222 : x10_4 < (x0_3.length : Int) := of_decide_eq_true (by first | (with_reducible assumption) | assumption)
                         obtain ⟨ad222, e222, hx222_0⟩ := Kd.at_int (Kd.R_reads' HO_0.out).2.2 x10_4 p222 q222
                         obtain rfl : (⟨go9, 0, none⟩ : Addr) = ad222 := (by injection e222)
                         (first | simp only [add_plain] at hx222_0 | simp only [add_at] at hx222_0 | simp only [Addr.add, Nat.zero_add] at hx222_0 | skip)
                         replace p222 := eq_true p222
                         replace q222 := eq_true q222
                         have p223 : 0 ≤ (a1 : Int) := of_decide_eq_true (by first | (with_reducible assumption) | assumption)
                         have q223 : a1 < (x0_3.length : Int) := of_decide_eq_true (by first | (with_reducible assumption) | assumption)
                         obtain ⟨ad223, e223, hx223_0⟩ := Kd.at_int (Kd.R_reads' HO_0.out).2.2 a1 p223 q223
                         obtain rfl : (⟨go9, 0, none⟩ : Addr) = ad223 := (by injection e223)
                         (first | simp only [add_plain] at hx223_0 | simp only [add_at] at hx223_0 | simp only [Addr.add, Nat.zero_add] at hx223_0 | skip)
                         replace p223 := eq_true p223
                         replace q223 := eq_true q223
                         refine start_ (n:=14) (S := fun w' => w'.cell? ⟨go9, (x10_4).toNat, none⟩ = some (.int .u32 (rd x0_3 x10_4)) ∧ w'.cell? ⟨go9, (a1).toNat, none⟩ = some (.int .u32 (rd x0_3 a1))) (ds := []) #[false,false,false,false,false,false,false,false,false,false,false,false,false,false] (by kernel_rfl) rfl rfl ⟨hx222_0, hx223_0⟩ (fun hHeld => ?_); refine with_tabW slices_partitionOrdered_uint32.tab13 slices_partitionOrdered_uint32.bits13 (fun HT_ HW_ => ?_)
                         generalize wr.drew = w65 at HO_0 HK HB hx222_0 hx223_0 hHeld ⊢
                         refine pure_ (i:=0) (N:=some 99) (v:=?_) (a':=?_) #[true,false,false,false,false,false,false,false,false,false,false,false,false,false] rfl rfl (any_of HT_.out (by kernel_rfl)) (fun _ _ _ h => h) (Or.inl ⟨by rfl, ?_⟩) ?_ ?_
                         rotate_left;·intro w';go_simp;with_reducible rfl
                         rotate_left;·simp only [Act.put, pa_, pz_, pu_, i64_w, i32_w];rfl
                         refine pure_ (i:=1) (N:=some 100) (v:=?_) (a':=?_) #[true,true,false,false,false,false,false,false,false,false,false,false,false,false] rfl rfl (any_of HT_.out (by kernel_rfl)) (fun _ _ _ h => h) (Or.inl ⟨by rfl, ?_⟩) ?_ ?_
                         rotate_left;·intro w';go_simp;with_reducible rfl
                         rotate_left;·simp only [Act.put, pa_, pz_, pu_, i64_w, i32_w];rfl
                         refine pure_ (i:=2) (N:=some 101) (v:=?_) (a':=?_) #[true,true,true,false,false,false,false,false,false,false,false,false,false,false] rfl rfl (any_of HT_.out (by kernel_rfl)) (fun _ _ _ h => h) (Or.inl ⟨by rfl, ?_⟩) ?_ ?_
                         rotate_left;·intro w';go_simp;with_reducible rfl
                         rotate_left;·simp only [Act.put, pa_, pz_, pu_, i64_w, i32_w];rfl
                         refine pure_ (i:=3) (N:=some 102) (v:=?_) (a':=?_) #[true,true,true,true,false,false,false,false,false,false,false,false,false,false] rfl rfl (any_of HT_.out (by kernel_rfl)) (fun _ _ _ h => h) (Or.inl ⟨by rfl, ?_⟩) ?_ ?_
                         rotate_left;·intro w';go_simp;with_reducible rfl
                         rotate_left;·simp only [Act.put, pa_, pz_, pu_, i64_w, i32_w];rfl
                         refine pure_ (i:=4) (N:=some 103) (v:=?_) (a':=?_) #[true,true,true,true,true,false,false,false,false,false,false,false,false,false] rfl rfl (any_of HT_.out (by kernel_rfl)) (fun _ _ _ h => h) (Or.inl ⟨by rfl, ?_⟩) ?_ ?_
                         rotate_left;·intro w';go_simp;with_reducible rfl
                         rotate_left;·simp only [Act.put, pa_, pz_, pu_, i64_w, i32_w];rfl
                         refine pure_ (i:=5) (N:=some 104) (v:=?_) (a':=?_) #[true,true,true,true,true,true,false,false,false,false,false,false,false,false] rfl rfl (any_of HT_.out (by kernel_rfl)) (fun _ _ _ h => h) (Or.inl ⟨by rfl, ?_⟩) ?_ ?_
                         rotate_left;·intro w';go_simp;with_reducible rfl
                         rotate_left;·simp only [Act.put, pa_, pz_, pu_, i64_w, i32_w];rfl
                         refine pure_ (i:=6) (N:=some 105) (v:=?_) (a':=?_) #[true,true,true,true,true,true,true,false,false,false,false,false,false,false] rfl rfl (any_of HT_.out (by kernel_rfl)) (fun _ _ _ h => h) (Or.inl ⟨by rfl, ?_⟩) ?_ ?_
                         rotate_left;·intro w';go_simp;with_reducible rfl
                         rotate_left;·simp only [Act.put, pa_, pz_, pu_, i64_w, i32_w];rfl
                         refine pure_ (i:=8) (N:=some 107) (v:=?_) (a':=?_) #[true,true,true,true,true,true,true,false,true,false,false,false,false,false] rfl rfl (any_of HT_.out (by kernel_rfl)) (fun _ _ _ h => h) (Or.inl ⟨by rfl, ?_⟩) ?_ ?_
                         rotate_left;·intro w';go_simp;with_reducible rfl
                         rotate_left;·simp only [Act.put, pa_, pz_, pu_, i64_w, i32_w];rfl
                         refine pure_ (i:=9) (N:=some 108) (v:=?_) (a':=?_) #[true,true,true,true,true,true,true,false,true,true,false,false,false,false] rfl rfl (any_of HT_.out (by kernel_rfl)) (fun _ _ _ h => h) (Or.inl ⟨by rfl, ?_⟩) ?_ ?_
                         rotate_left;·intro w';go_simp;with_reducible rfl
                         rotate_left;·simp only [Act.put, pa_, pz_, pu_, i64_w, i32_w];rfl
                         refine pure_ (i:=10) (N:=some 109) (v:=?_) (a':=?_) #[true,true,true,true,true,true,true,false,true,true,true,false,false,false] rfl rfl (any_of HT_.out (by kernel_rfl)) (fun _ _ _ h => h) (Or.inl ⟨by rfl, ?_⟩) ?_ ?_
                         rotate_left;·intro w';go_simp;with_reducible rfl
                         rotate_left;·simp only [Act.put, pa_, pz_, pu_, i64_w, i32_w];rfl
                         refine take_ (i:=7) (N:=some 106) (v:=?_) (a':=?_) #[true,true,true,true,true,true,true,true,true,true,true,false,false,false] rfl rfl (take_ofW HT_.out HW_.out (by kernel_rfl)) (fun _ _ _ h => h) (Or.inl ⟨by rfl, ?_⟩) hHeld ?_ ?_
                         rotate_left;·rintro w' ⟨s0, s1⟩;go_simp;with_reducible rfl
                         rotate_left;·simp only [Act.put, pa_, pz_, pu_, i64_w, i32_w];rfl
                         refine take_ (i:=11) (N:=some 110) (v:=?_) (a':=?_) #[true,true,true,true,true,true,true,true,true,true,true,true,false,false] rfl rfl (take_ofW HT_.out HW_.out (by kernel_rfl)) (fun _ _ _ h => h) (Or.inl ⟨by rfl, ?_⟩) hHeld ?_ ?_
                         rotate_left;·rintro w' ⟨s0, s1⟩;go_simp;with_reducible rfl
                         rotate_left;·simp only [Act.put, pa_, pz_, pu_, i64_w, i32_w];rfl
                         refine one_ (i:=12) (N:=some 111) #[true,true,true,true,true,true,true,true,true,true,true,true,true,false] rfl rfl (one_of HT_.out (by kernel_rfl)) (by decide) (fun K hK => ?_)
                         refine goes_ Tryd.func57 (by kernel_rfl) rfl #[.int .u32 (rd x0_3 x10_4), .int .u32 (rd x0_3 a1)] (by rfl) rfl rfl (by (try simp only [List.map_toArray, List.map_cons, List.map_nil]); first | done | rfl | (simp only [List.length_drop, List.length_take]; rfl)) ?_
                         with_reducible refine (cmp_Less_uint32.calls (rd x0_3 x10_4) (rd x0_3 a1) false _ A62.out).mono ?_
                         rintro e w' ⟨rfl, ⟨nd, rfl⟩⟩
                         refine ⟨_, rfl, ?_⟩
                         refine hK.out _ _ ⟨hHeld.1, hHeld.2⟩ (fun hHeld => ?_)
                         clear hK K
                         refine norm_ (a' := ?_) ?_ ?_
                         rotate_left
                         ·show Act.put _ (some 111) _ = _
                          simp only [Act.put, List.setIfInBounds_toArray, List.set_cons_zero, List.set_cons_succ, i64_w, i32_w]
                          rfl
                         refine pure_ (i:=13) (N:=some 112) (v:=?_) (a':=?_) #[true,true,true,true,true,true,true,true,true,true,true,true,true,true] rfl rfl (any_of HT_.out (by kernel_rfl)) (fun _ _ _ h => h) (Or.inl ⟨by rfl, ?_⟩) ?_ ?_
                         rotate_left;·intro w';go_simp;with_reducible rfl
                         rotate_left;·simp only [Act.put, pa_, pz_, pu_, i64_w, i32_w];rfl
                         refine done_ (done_of HT_.out (by kernel_rfl)) ?_
                         try go_wp2
                         go_meet
                         case rel => exact ⟨_, (x10_4), (by first | rfl | (simp; done) | (simp [*]; done)), H', ⟨by have := HJ10.out; have := HJ25.out; have := HK3.out; have := HK4.out; first | omega | exact Nat.le_refl _⟩, ⟨by (try simp only [hl0_10]); (try simp only [hl0_3]); (with_reducible repeat (first | apply Kd.R_alloc | apply Kd.R_drewN | apply Kd.R_drew)); exact HO_0.out⟩, ⟨by repeat (first | (with_reducible first | exact HK.out | apply Kept.alloc | apply Kept.drewN | apply Kept.drew) | exact HK.out)⟩, ⟨by repeat (first | (with_reducible first | exact HB.out | apply below_alloc | apply pw_below_drewN | apply below_drew1) | exact HB.out)⟩⟩
                       ·rw [if_neg c61] at H
                        exact absurd H (by simp)
                      ·rw [if_neg c60] at H
                       exact absurd H (by simp)
                     ·rw [if_neg c59] at H
                      exact absurd H (by simp)
                    ·rw [if_neg c58] at H
                     exact absurd H (by simp)
                   ·rw [if_neg c57] at H
                    have c57b0 : decide (x10_4 ≤ x11_3) = false := decide_eq_false c57
                    clear c57
                    (first | rw [c57b0] | (simp only [i64_w, i32_w]; rw [c57b0]) | skip)
                    have H' := Aside0.mk H
                    clear H
                    try go_wp2
                    have n0_ := Aside0.mk (Kd.R_drew HO_0.out)
                    have n1_ := Aside0.mk (Kept.drew HK.out)
                    have n2_ := Aside0.mk (below_drew1 HB.out)
                    clear HO_0
                    clear HK
                    clear HB
                    have HO_0 := n0_
                    have HK := n1_
                    have HB := n2_
                    clear n0_ n1_ n2_
                    refine start_ (n:=14) (S := fun w' => True) (ds := []) #[false,false,false,false,false,false,false,false,false,false,false,false,false,false] (by kernel_rfl) rfl rfl trivial (fun hHeld => ?_); refine with_tabW slices_partitionOrdered_uint32.tab13 slices_partitionOrdered_uint32.bits13 (fun HT_ HW_ => ?_)
                    generalize wr.drew = w66 at HO_0 HK HB hHeld ⊢
                    refine pure_ (i:=0) (N:=some 99) (v:=?_) (a':=?_) #[true,false,false,false,false,false,false,false,false,false,false,false,false,false] rfl rfl (any_of HT_.out (by kernel_rfl)) (fun _ _ _ h => h) (Or.inl ⟨by rfl, ?_⟩) ?_ ?_
                    rotate_left;·intro w';go_simp;with_reducible rfl
                    rotate_left;·simp only [Act.put, pa_, pz_, pu_, i64_w, i32_w];rfl
                    refine pure_ (i:=1) (N:=some 100) (v:=?_) (a':=?_) #[true,true,false,false,false,false,false,false,false,false,false,false,false,false] rfl rfl (any_of HT_.out (by kernel_rfl)) (fun _ _ _ h => h) (Or.inl ⟨by rfl, ?_⟩) ?_ ?_
                    rotate_left;·intro w';go_simp;with_reducible rfl
                    rotate_left;·simp only [Act.put, pa_, pz_, pu_, i64_w, i32_w];rfl
                    refine pure_ (i:=2) (N:=some 101) (v:=?_) (a':=?_) #[true,true,true,false,false,false,false,false,false,false,false,false,false,false] rfl rfl (any_of HT_.out (by kernel_rfl)) (fun _ _ _ h => h) (Or.inl ⟨by rfl, ?_⟩) ?_ ?_
                    rotate_left;·intro w';go_simp;with_reducible rfl
                    rotate_left;·simp only [Act.put, pa_, pz_, pu_, i64_w, i32_w];rfl
                    refine pure_ (i:=3) (N:=some 102) (v:=?_) (a':=?_) #[true,true,true,true,false,false,false,false,false,false,false,false,false,false] rfl rfl (any_of HT_.out (by kernel_rfl)) (fun _ _ _ h => h) (Or.inl ⟨by rfl, ?_⟩) ?_ ?_
                    rotate_left;·intro w';go_simp;with_reducible rfl
                    rotate_left;·simp only [Act.put, pa_, pz_, pu_, i64_w, i32_w];rfl
                    refine pure_ (i:=4) (N:=some 103) (v := undef) (a' := ?_) #[true,true,true,true,true,false,false,false,false,false,false,false,false,false] rfl rfl (any_of HT_.out (by kernel_rfl)) (fun _ _ _ h => h) (Or.inr ⟨by rfl, rfl⟩) ?_ ?_
                    rotate_left;·simp only [Act.put, pa_, pz_, pu_, i64_w, i32_w];rfl
                    refine pure_ (i:=5) (N:=some 104) (v := undef) (a' := ?_) #[true,true,true,true,true,true,false,false,false,false,false,false,false,false] rfl rfl (any_of HT_.out (by kernel_rfl)) (fun _ _ _ h => h) (Or.inr ⟨by rfl, rfl⟩) ?_ ?_
                    rotate_left;·simp only [Act.put, pa_, pz_, pu_, i64_w, i32_w];rfl
                    refine pure_ (i:=6) (N:=some 105) (v := undef) (a' := ?_) #[true,true,true,true,true,true,true,false,false,false,false,false,false,false] rfl rfl (any_of HT_.out (by kernel_rfl)) (fun _ _ _ h => h) (Or.inr ⟨by rfl, rfl⟩) ?_ ?_
                    rotate_left;·simp only [Act.put, pa_, pz_, pu_, i64_w, i32_w];rfl
                    refine pure_ (i:=7) (N:=some 106) (v := undef) (a' := ?_) #[true,true,true,true,true,true,true,true,false,false,false,false,false,false] rfl rfl (any_of HT_.out (by kernel_rfl)) (fun _ _ _ h => h) (Or.inr ⟨by rfl, rfl⟩) ?_ ?_
                    rotate_left;·simp only [Act.put, pa_, pz_, pu_, i64_w, i32_w];rfl
                    refine pure_ (i:=8) (N:=some 107) (v := undef) (a' := ?_) #[true,true,true,true,true,true,true,true,true,false,false,false,false,false] rfl rfl (any_of HT_.out (by kernel_rfl)) (fun _ _ _ h => h) (Or.inr ⟨by rfl, rfl⟩) ?_ ?_
                    rotate_left;·simp only [Act.put, pa_, pz_, pu_, i64_w, i32_w];rfl
                    refine pure_ (i:=9) (N:=some 108) (v := undef) (a' := ?_) #[true,true,true,true,true,true,true,true,true,true,false,false,false,false] rfl rfl (any_of HT_.out (by kernel_rfl)) (fun _ _ _ h => h) (Or.inr ⟨by rfl, rfl⟩) ?_ ?_
                    rotate_left;·simp only [Act.put, pa_, pz_, pu_, i64_w, i32_w];rfl
                    refine pure_ (i:=10) (N:=some 109) (v := undef) (a' := ?_) #[true,true,true,true,true,true,true,true,true,true,true,false,false,false] rfl rfl (any_of HT_.out (by kernel_rfl)) (fun _ _ _ h => h) (Or.inr ⟨by rfl, rfl⟩) ?_ ?_
                    rotate_left;·simp only [Act.put, pa_, pz_, pu_, i64_w, i32_w];rfl
                    refine pure_ (i:=11) (N:=some 110) (v := undef) (a' := ?_) #[true,true,true,true,true,true,true,true,true,true,true,true,false,false] rfl rfl (any_of HT_.out (by kernel_rfl)) (fun _ _ _ h => h) (Or.inr ⟨by rfl, rfl⟩) ?_ ?_
                    rotate_left;·simp only [Act.put, pa_, pz_, pu_, i64_w, i32_w];rfl
                    refine pure_ (i:=12) (N:=some 111) (v := undef) (a' := ?_) #[true,true,true,true,true,true,true,true,true,true,true,true,true,false] rfl rfl (any_of HT_.out (by kernel_rfl)) (fun _ _ _ h => h) (Or.inr ⟨by rfl, rfl⟩) ?_ ?_
                    rotate_left;·simp only [Act.put, pa_, pz_, pu_, i64_w, i32_w];rfl
                    refine pure_ (i:=13) (N:=some 112) (v:=?_) (a':=?_) #[true,true,true,true,true,true,true,true,true,true,true,true,true,true] rfl rfl (any_of HT_.out (by kernel_rfl)) (fun _ _ _ h => h) (Or.inl ⟨by rfl, ?_⟩) ?_ ?_
                    rotate_left;·intro w';go_simp;with_reducible rfl
                    rotate_left;·simp only [Act.put, pa_, pz_, pu_, i64_w, i32_w];rfl
                    refine done_ (done_of HT_.out (by kernel_rfl)) ?_
                    try go_wp2
                    go_meet
                    case rel => exact ⟨_, (x10_4), (by first | rfl | (simp; done) | (simp [*]; done)), H', ⟨by have := HJ10.out; have := HJ25.out; have := HK3.out; have := HK4.out; first | omega | exact Nat.le_refl _⟩, ⟨by (try simp only [hl0_10]); (try simp only [hl0_3]); (with_reducible repeat (first | apply Kd.R_alloc | apply Kd.R_drewN | apply Kd.R_drew)); exact HO_0.out⟩, ⟨by repeat (first | (with_reducible first | exact HK.out | apply Kept.alloc | apply Kept.drewN | apply Kept.drew) | exact HK.out)⟩, ⟨by repeat (first | (with_reducible first | exact HB.out | apply below_alloc | apply pw_below_drewN | apply below_drew1) | exact HB.out)⟩⟩
                case rest =>
                 clear HC56
                 try clear c1
                 try clear p1
                 try clear q1
                 try clear hx1
                 try clear c2
                 try clear p2
                 try clear q2
                 try clear hx2
                 try clear c3
                 try clear c4
                 try clear p4
                 try clear q4
                 try clear hx4
                 try clear hf4
                 try clear c5
                 try clear c5b0
                 try clear p5
                 try clear q5
                 try clear hx5
                 try clear hf5
                 try clear c6
                 try clear c6b0
                 try clear p6
                 try clear c7
                 try clear c7b0
                 try clear c8
                 try clear c8b0
                 try clear p9
                 try clear q9
                 try clear hx9
                 try clear hf9
                 try clear p10
                 try clear q10
                 try clear hx10
                 try clear hf10
                 try clear c16
                 try clear c16b0
                 try clear c17
                 try clear c17b0
                 try clear c18
                 try clear c18b0
                 try clear c19
                 try clear c19b0
                 try clear c20
                 try clear c20b0
                 try clear p20
                 try clear q20
                 try clear hx20
                 try clear p21
                 try clear q21
                 try clear hx21
                 try clear c22
                 try clear p22
                 try clear q22
                 try clear hx22
                 try clear c27
                 try clear c27b0
                 try clear c28
                 try clear c28b0
                 try clear c29
                 try clear c29b0
                 try clear c30
                 try clear c30b0
                 try clear c31
                 try clear c31b0
                 try clear c33
                 try clear c37
                 try clear c37b0
                 try clear c38
                 try clear c38b0
                 try clear c39
                 try clear c39b0
                 try clear c40
                 try clear c40b0
                 try clear c41
                 try clear c41b0
                 try clear p42
                 try clear q42
                 try clear hx42
                 try clear hf42
                 try clear p43
                 try clear q43
                 try clear hx43
                 try clear hf43
                 try clear c47
                 try clear c47b0
                 try clear c48
                 try clear c48b0
                 try clear c49
                 try clear c49b0
                 try clear c50
                 try clear c50b0
                 try clear p51
                 try clear q51
                 try clear hx51
                 try clear hf51
                 try clear p52
                 try clear q52
                 try clear hx52
                 try clear hf52
                 try clear c57
                 try clear c57b0
                 try clear c58
                 try clear c58b0
                 try clear c59
                 try clear c59b0
                 try clear c60
                 try clear c60b0
                 try clear c61
                 try clear c61b0
                 try clear c63
                 try clear p64
                 try clear hx10_0
                 try clear hx204_0
                 try clear hx205_0
                 try clear hx208_0
                 try clear hx209_0
                 try clear hx211_0
                 try clear hx212_0
                 try clear hx214_0
                 try clear hx215_0
                 try clear hx218_0
                 try clear hx219_0
                 try clear hx222_0
                 try clear hx223_0
                 try clear hx42_0
                 try clear hx43_0
                 try clear hx51_0
                 try clear hx52_0
                 try clear hx9_0
                 try clear p1
                 try clear p10
                 try clear p2
                 try clear p20
                 try clear p204
                 try clear p205
                 try clear p208
                 try clear p209
                 try clear p21
                 try clear p211
                 try clear p212
                 try clear p214
                 try clear p215
                 try clear p218
                 try clear p219
                 try clear p222
                 try clear p223
                 try clear p4
                 try clear p42
                 try clear p43
                 try clear p5
                 try clear p51
                 try clear p52
                 try clear p6
                 try clear p9
                 try clear q1
                 try clear q10
                 try clear q2
                 try clear q20
                 try clear q204
                 try clear q205
                 try clear q208
                 try clear q209
                 try clear q21
                 try clear q211
                 try clear q212
                 try clear q214
                 try clear q215
                 try clear q218
                 try clear q219
                 try clear q222
                 try clear q223
                 try clear q4
                 try clear q42
                 try clear q43
                 try clear q5
                 try clear q51
                 try clear q52
                 try clear q9
                 obtain ⟨kq, x10_55, rfl, HA, HJ55, HO_0, HK, HB⟩ := hcut
                 cases kq with
                 | zero => exact absurd HA.out (by simp [slices_partitionOrdered_uint32.j6])
                 | succ kj55 =>
                  have H := HA.out
                  clear HA
                  simp only [slices_partitionOrdered_uint32.j6] at H
                  have H' := Aside0.mk H
                  clear H
                  go_wp2
                  go_loopg [11] kj55 (fun kq v11 w' => ∃ (x11_5 : Int), v11 = .int .i64 x11_5 ∧ Aside0 (slices_partitionOrdered_uint32.l4 kq x0_3 a1 x10_55 x11_5 = some (r1, r2, r3)) ∧ Aside0 (kq ≤ kj55) ∧ Aside0 (Kd.R (Kd.int .u32) 33 w' w0.heap.size (fun k_ => (P0_ k_ ∨ w.heap.size ≤ k_)) (.slice (some ⟨go9, 0, none⟩) x0_3.length co13) x0_3) ∧ Aside0 (Kept w w' (fun k_ => P0_ k_)) ∧ Aside0 (Below w0.heap.size w0 w'))
                  case atStart => exact ⟨(x11_3), (by first | rfl | (simp; done) | (simp [*]; done)), H', ⟨Nat.le_refl _⟩, ⟨by (try simp only [hl0_10]); (try simp only [hl0_3]); (with_reducible repeat (first | apply Kd.R_alloc | apply Kd.R_drewN | apply Kd.R_drew)); exact HO_0.out⟩, ⟨by repeat (first | (with_reducible first | exact HK.out | apply Kept.alloc | apply Kept.drewN | apply Kept.drew) | exact HK.out)⟩, ⟨by repeat (first | (with_reducible first | exact HB.out | apply below_alloc | apply pw_below_drewN | apply below_drew1) | exact HB.out)⟩⟩
                  case round =>
                   clear H'
                   try clear c1
                   try clear p1
                   try clear q1
                   try clear hx1
                   try clear c2
                   try clear p2
                   try clear q2
                   try clear hx2
                   try clear c3
                   try clear c4
                   try clear p4
                   try clear q4
                   try clear hx4
                   try clear hf4
                   try clear c5
                   try clear c5b0
                   try clear p5
                   try clear q5
                   try clear hx5
                   try clear hf5
                   try clear c6
                   try clear c6b0
                   try clear p6
                   try clear c7
                   try clear c7b0
                   try clear c8
                   try clear c8b0
                   try clear p9
                   try clear q9
                   try clear hx9
                   try clear hf9
                   try clear p10
                   try clear q10
                   try clear hx10
                   try clear hf10
                   try clear c16
                   try clear c16b0
                   try clear c17
                   try clear c17b0
                   try clear c18
                   try clear c18b0
                   try clear c19
                   try clear c19b0
                   try clear c20
                   try clear c20b0
                   try clear p20
                   try clear q20
                   try clear hx20
                   try clear p21
                   try clear q21
                   try clear hx21
                   try clear c22
                   try clear p22
                   try clear q22
                   try clear hx22
                   try clear c27
                   try clear c27b0
                   try clear c28
                   try clear c28b0
                   try clear c29
                   try clear c29b0
                   try clear c30
                   try clear c30b0
                   try clear c31
                   try clear c31b0
                   try clear c33
                   try clear c37
                   try clear c37b0
                   try clear c38
                   try clear c38b0
                   try clear c39
                   try clear c39b0
                   try clear c40
                   try clear c40b0
                   try clear c41
                   try clear c41b0
                   try clear p42
                   try clear q42
                   try clear hx42
                   try clear hf42
                   try clear p43
                   try clear q43
                   try clear hx43
                   try clear hf43
                   try clear c47
                   try clear c47b0
                   try clear c48
                   try clear c48b0
                   try clear c49
                   try clear c49b0
                   try clear c50
                   try clear c50b0
                   try clear p51
                   try clear q51
                   try clear hx51
                   try clear hf51
                   try clear p52
                   try clear q52
                   try clear hx52
                   try clear hf52
                   try clear c57
                   try clear c57b0
                   try clear c58
                   try clear c58b0
                   try clear c59
                   try clear c59b0
                   try clear c60
                   try clear c60b0
                   try clear c61
                   try clear c61b0
                   try clear c63
                   try clear p64
                   try clear hx10_0
                   try clear hx204_0
                   try clear hx205_0
                   try clear hx208_0
                   try clear hx209_0
                   try clear hx211_0
                   try clear hx212_0
                   try clear hx214_0
                   try clear hx215_0
                   try clear hx218_0
                   try clear hx219_0
                   try clear hx222_0
                   try clear hx223_0
                   try clear hx42_0
                   try clear hx43_0
                   try clear hx51_0
                   try clear hx52_0
                   try clear hx9_0
                   try clear p1
                   try clear p10
                   try clear p2
                   try clear p20
                   try clear p204
                   try clear p205
                   try clear p208
                   try clear p209
                   try clear p21
                   try clear p211
                   try clear p212
                   try clear p214
                   try clear p215
                   try clear p218
                   try clear p219
                   try clear p22
                   try clear p222
                   try clear p223
                   try clear p4
                   try clear p42
                   try clear p43
                   try clear p5
                   try clear p51
                   try clear p52
                   try clear p6
                   try clear p64
                   try clear p9
                   try clear q1
                   try clear q10
                   try clear q2
                   try clear q20
                   try clear q204
                   try clear q205
                   try clear q208
                   try clear q209
                   try clear q21
                   try clear q211
                   try clear q212
                   try clear q214
                   try clear q215
                   try clear q218
                   try clear q219
                   try clear q22
                   try clear q222
                   try clear q223
                   try clear q4
                   try clear q42
                   try clear q43
                   try clear q5
                   try clear q51
                   try clear q52
                   try clear q9
                   obtain ⟨x11_5, rfl, HA, HK5, HO_0, HK, HB⟩ := hrel
                   cases gk with
                   | zero => exact absurd HA.out (by simp [slices_partitionOrdered_uint32.l4])
                   | succ k5 =>
                    have H := HA.out
                    clear HA
                    simp only [slices_partitionOrdered_uint32.l4] at H
                    by_cases c67 : x10_55 ≤ x11_5
                    ·rw [if_pos c67] at H
                     have c67b0 : decide (x10_55 ≤ x11_5) = true := decide_eq_true c67
                     clear c67
                     by_cases c68 : 0 ≤ x11_5
                     ·rw [if_pos c68] at H
                      have c68b0 : decide (0 ≤ x11_5) = true := decide_eq_true c68
                      clear c68
                      by_cases c69 : x11_5 < (x0_3.length : Int)
                      ·rw [if_pos c69] at H
                       have c69b0 : decide (x11_5 < (x0_3.length : Int)) = true := decide_eq_true c69
                       clear c69
                       by_cases c70 : 0 ≤ a1
                       ·rw [if_pos c70] at H
                        have c70b0 : decide (0 ≤ a1) = true := decide_eq_true c70
                        clear c70
                        by_cases c71 : a1 < (x0_3.length : Int)
                        ·rw [if_pos c71] at H
                         have c71b0 : decide (a1 < (x0_3.length : Int)) = true := decide_eq_true c71
                         clear c71
                         replace H := Option.bind_eq_some_iff.mp H
                         obtain ⟨t227, A720, H⟩ := H
                         replace H : (if t227 = true then (if x10_55 > x11_5 then (some (x11_5, false, ((x0_3.set (x11_5 : Int).toNat (rd x0_3 a1)).set (a1 : Int).toNat (rd x0_3 x11_5)))) else (if 0 ≤ x10_55 then (if x10_55 < (x0_3.length : Int) then (slices_partitionOrdered_uint32.l2 k5 ((x0_3.set (x10_55 : Int).toNat (rd x0_3 x11_5)).set (x11_5 : Int).toNat (rd x0_3 x10_55)) a1 (wrap64 (x10_55 + 1)) (wrap64 (x11_5 - 1))) else (none)) else (none))) else (slices_partitionOrdered_uint32.l4 k5 x0_3 a1 x10_55 (wrap64 (x11_5 - 1)))) = some (r1, r2, r3) := H
                         have A72 := Aside0.mk A720
                         clear A720
                         by_cases c73 : t227 = true
                         ·subst c73
                          have H1 : (if x10_55 > x11_5 then (some (x11_5, false, ((x0_3.set (x11_5 : Int).toNat (rd x0_3 a1)).set (a1 : Int).toNat (rd x0_3 x11_5)))) else (if 0 ≤ x10_55 then (if x10_55 < (x0_3.length : Int) then (slices_partitionOrdered_uint32.l2 k5 ((x0_3.set (x10_55 : Int).toNat (rd x0_3 x11_5)).set (x11_5 : Int).toNat (rd x0_3 x10_55)) a1 (wrap64 (x10_55 + 1)) (wrap64 (x11_5 - 1))) else (none)) else (none))) = some (r1, r2, r3) := by rw [if_pos rfl] at H; exact H
                          clear H
                          have H := H1
                          clear H1
                          by_cases c74 : x10_55 > x11_5
                          ·rw [if_pos c74] at H
                           have c74b0 : decide (x11_5 < x10_55) = true := decide_eq_true c74
                           clear c74
                           obtain ⟨y230, hy230⟩ : ∃ y_ : List Int, y_ = (x0_3.set (x11_5 : Int).toNat (rd x0_3 a1)) := ⟨_, rfl⟩
                           replace H : (some (x11_5, false, (y230.set (a1 : Int).toNat (rd x0_3 x11_5)))) = some (r1, r2, r3) := by first | (rw [hy230]; with_reducible exact H) | (have H2_ := (Option.bind_some _ _).symm.trans H; rw [hy230]; with_reducible exact H2_) | (have H2_ := (Option.bind_some _ _).symm.trans H; with_reducible exact H2_) | with_reducible exact H | (rw [hy230]; exact H) | exact H
                           have Ny230 := Aside0.mk hy230
                           clear hy230
                           obtain ⟨y231, hy231⟩ : ∃ y_ : List Int, y_ = (y230.set (a1 : Int).toNat (rd x0_3 x11_5)) := ⟨_, rfl⟩
                           replace H : (some (x11_5, false, y231)) = some (r1, r2, r3) := by first | (rw [hy231]; with_reducible exact H) | (have H2_ := (Option.bind_some _ _).symm.trans H; rw [hy231]; with_reducible exact H2_) | (have H2_ := (Option.bind_some _ _).symm.trans H; with_reducible exact H2_) | with_reducible exact H | (rw [hy231]; exact H) | exact H
                           have Ny231 := Aside0.mk hy231
                           clear hy231
                           simp only [Option.some.injEq, Prod.mk.injEq] at H
                           obtain ⟨rfl, rfl, rfl⟩ := H
                           try go_wp2
                           have n0_ := Aside0.mk (Kd.R_drew HO_0.out)
                           have n1_ := Aside0.mk (Kept.drew HK.out)
                           have n2_ := Aside0.mk (below_drew1 HB.out)
                           clear HO_0
                           clear HK
                           clear HB
                           have HO_0 := n0_
                           have HK := n1_
                           have HB := n2_
                           clear n0_ n1_ n2_
                           have p225 : 0 ≤ (x11_5 : Int) := of_decide_eq_true (by first | (with_reducible assumption) | assumption)
                           have q225 : x11_5 < (x0_3.length : Int) := of_decide_eq_true (by first | (with_reducible assumption) | assumption)
                           obtain ⟨ad225, e225, hx225_0⟩ := Kd.at_int (Kd.R_reads' HO_0.out).2.2 x11_5 p225 q225
                           obtain rfl : (⟨go9, 0, none⟩ : Addr) = ad225 := (by injection e225)
                           (first | simp only [add_plain] at hx225_0 | simp only [add_at] at hx225_0 | simp only [Addr.add, Nat.zero_add] at hx225_0 | skip)
                           replace p225 := eq_true p225
                           replace q225 := eq_true q225
                           have p226 : 0 ≤ (a1 : Int) := of_decide_eq_true (by first | (with_reducible assumption) | assumption)
                           have q226 : a1 < (x0_3.length : Int) := of_decide_eq_true (by first | (with_reducible assumption) | assumption)
                           obtain ⟨ad226, e226, hx226_0⟩ := Kd.at_int (Kd.R_reads' HO_0.out).2.2 a1 p226 q226
                           obtain rfl : (⟨go9, 0, none⟩ : Addr) = ad226 := (by injection e226)
                           (first | simp only [add_plain] at hx226_0 | simp only [add_at] at hx226_0 | simp only [Addr.add, Nat.zero_add] at hx226_0 | skip)
                           replace p226 := eq_true p226
                           replace q226 := eq_true q226
                           refine start_ (n:=15) (S := fun w' => w'.cell? ⟨go9, (x11_5).toNat, none⟩ = some (.int .u32 (rd x0_3 x11_5)) ∧ w'.cell? ⟨go9, (a1).toNat, none⟩ = some (.int .u32 (rd x0_3 a1))) (ds := []) #[false,false,false,false,false,false,false,false,false,false,false,false,false,false,false] (by kernel_rfl) rfl rfl ⟨hx225_0, hx226_0⟩ (fun hHeld => ?_); refine with_tabW slices_partitionOrdered_uint32.tab15 slices_partitionOrdered_uint32.bits15 (fun HT_ HW_ => ?_)
                           generalize wr.drew = w77 at HO_0 HK HB hx225_0 hx226_0 hHeld ⊢
                           refine pure_ (i:=0) (N:=some 115) (v:=?_) (a':=?_) #[true,false,false,false,false,false,false,false,false,false,false,false,false,false,false] rfl rfl (any_of HT_.out (by kernel_rfl)) (fun _ _ _ h => h) (Or.inl ⟨by rfl, ?_⟩) ?_ ?_
                           rotate_left;·intro w';go_simp;with_reducible rfl
                           rotate_left;·simp only [Act.put, pa_, pz_, pu_, i64_w, i32_w];rfl
                           refine pure_ (i:=1) (N:=some 116) (v:=?_) (a':=?_) #[true,true,false,false,false,false,false,false,false,false,false,false,false,false,false] rfl rfl (any_of HT_.out (by kernel_rfl)) (fun _ _ _ h => h) (Or.inl ⟨by rfl, ?_⟩) ?_ ?_
                           rotate_left;·intro w';go_simp;with_reducible rfl
                           rotate_left;·simp only [Act.put, pa_, pz_, pu_, i64_w, i32_w];rfl
                           refine pure_ (i:=2) (N:=some 117) (v:=?_) (a':=?_) #[true,true,true,false,false,false,false,false,false,false,false,false,false,false,false] rfl rfl (any_of HT_.out (by kernel_rfl)) (fun _ _ _ h => h) (Or.inl ⟨by rfl, ?_⟩) ?_ ?_
                           rotate_left;·intro w';go_simp;with_reducible rfl
                           rotate_left;·simp only [Act.put, pa_, pz_, pu_, i64_w, i32_w];rfl
                           refine pure_ (i:=3) (N:=some 118) (v:=?_) (a':=?_) #[true,true,true,true,false,false,false,false,false,false,false,false,false,false,false] rfl rfl (any_of HT_.out (by kernel_rfl)) (fun _ _ _ h => h) (Or.inl ⟨by rfl, ?_⟩) ?_ ?_
                           rotate_left;·intro w';go_simp;with_reducible rfl
                           rotate_left;·simp only [Act.put, pa_, pz_, pu_, i64_w, i32_w];rfl
                           refine pure_ (i:=4) (N:=some 119) (v:=?_) (a':=?_) #[true,true,true,true,true,false,false,false,false,false,false,false,false,false,false] rfl rfl (any_of HT_.out (by kernel_rfl)) (fun _ _ _ h => h) (Or.inl ⟨by rfl, ?_⟩) ?_ ?_
                           rotate_left;·intro w';go_simp;with_reducible rfl
                           rotate_left;·simp only [Act.put, pa_, pz_, pu_, i64_w, i32_w];rfl
                           refine pure_ (i:=5) (N:=some 120) (v:=?_) (a':=?_) #[true,true,true,true,true,true,false,false,false,false,false,false,false,false,false] rfl rfl (any_of HT_.out (by kernel_rfl)) (fun _ _ _ h => h) (Or.inl ⟨by rfl, ?_⟩) ?_ ?_
                           rotate_left;·intro w';go_simp;with_reducible rfl
                           rotate_left;·simp only [Act.put, pa_, pz_, pu_, i64_w, i32_w];rfl
                           refine pure_ (i:=6) (N:=some 121) (v:=?_) (a':=?_) #[true,true,true,true,true,true,true,false,false,false,false,false,false,false,false] rfl rfl (any_of HT_.out (by kernel_rfl)) (fun _ _ _ h => h) (Or.inl ⟨by rfl, ?_⟩) ?_ ?_
                           rotate_left;·intro w';go_simp;with_reducible rfl
                           rotate_left;·simp only [Act.put, pa_, pz_, pu_, i64_w, i32_w];rfl
                           refine pure_ (i:=8) (N:=some 123) (v:=?_) (a':=?_) #[true,true,true,true,true,true,true,false,true,false,false,false,false,false,false] rfl rfl (any_of HT_.out (by kernel_rfl)) (fun _ _ _ h => h) (Or.inl ⟨by rfl, ?_⟩) ?_ ?_
                           rotate_left;·intro w';go_simp;with_reducible rfl
                           rotate_left;·simp only [Act.put, pa_, pz_, pu_, i64_w, i32_w];rfl
                           refine pure_ (i:=9) (N:=some 124) (v:=?_) (a':=?_) #[true,true,true,true,true,true,true,false,true,true,false,false,false,false,false] rfl rfl (any_of HT_.out (by kernel_rfl)) (fun _ _ _ h => h) (Or.inl ⟨by rfl, ?_⟩) ?_ ?_
                           rotate_left;·intro w';go_simp;with_reducible rfl
                           rotate_left;·simp only [Act.put, pa_, pz_, pu_, i64_w, i32_w];rfl
                           refine pure_ (i:=10) (N:=some 125) (v:=?_) (a':=?_) #[true,true,true,true,true,true,true,false,true,true,true,false,false,false,false] rfl rfl (any_of HT_.out (by kernel_rfl)) (fun _ _ _ h => h) (Or.inl ⟨by rfl, ?_⟩) ?_ ?_
                           rotate_left;·intro w';go_simp;with_reducible rfl
                           rotate_left;·simp only [Act.put, pa_, pz_, pu_, i64_w, i32_w];rfl
                           refine take_ (i:=7) (N:=some 122) (v:=?_) (a':=?_) #[true,true,true,true,true,true,true,true,true,true,true,false,false,false,false] rfl rfl (take_ofW HT_.out HW_.out (by kernel_rfl)) (fun _ _ _ h => h) (Or.inl ⟨by rfl, ?_⟩) hHeld ?_ ?_
                           rotate_left;·rintro w' ⟨s0, s1⟩;go_simp;with_reducible rfl
                           rotate_left;·simp only [Act.put, pa_, pz_, pu_, i64_w, i32_w];rfl
                           refine take_ (i:=11) (N:=some 126) (v:=?_) (a':=?_) #[true,true,true,true,true,true,true,true,true,true,true,true,false,false,false] rfl rfl (take_ofW HT_.out HW_.out (by kernel_rfl)) (fun _ _ _ h => h) (Or.inl ⟨by rfl, ?_⟩) hHeld ?_ ?_
                           rotate_left;·rintro w' ⟨s0, s1⟩;go_simp;with_reducible rfl
                           rotate_left;·simp only [Act.put, pa_, pz_, pu_, i64_w, i32_w];rfl
                           refine one_ (i:=12) (N:=some 127) #[true,true,true,true,true,true,true,true,true,true,true,true,true,false,false] rfl rfl (one_of HT_.out (by kernel_rfl)) (by decide) (fun K hK => ?_)
                           refine goes_ Tryd.func57 (by kernel_rfl) rfl #[.int .u32 (rd x0_3 x11_5), .int .u32 (rd x0_3 a1)] (by rfl) rfl rfl (by (try simp only [List.map_toArray, List.map_cons, List.map_nil]); first | done | rfl | (simp only [List.length_drop, List.length_take]; rfl)) ?_
                           with_reducible refine (cmp_Less_uint32.calls (rd x0_3 x11_5) (rd x0_3 a1) true _ A72.out).mono ?_
                           rintro e w' ⟨rfl, ⟨nd, rfl⟩⟩
                           refine ⟨_, rfl, ?_⟩
                           refine hK.out _ _ ⟨hHeld.1, hHeld.2⟩ (fun hHeld => ?_)
                           clear hK K
                           refine norm_ (a' := ?_) ?_ ?_
                           rotate_left
                           ·show Act.put _ (some 127) _ = _
                            simp only [Act.put, List.setIfInBounds_toArray, List.set_cons_zero, List.set_cons_succ, i64_w, i32_w]
                            rfl
                           refine pure_ (i:=13) (N:=some 128) (v:=?_) (a':=?_) #[true,true,true,true,true,true,true,true,true,true,true,true,true,true,false] rfl rfl (any_of HT_.out (by kernel_rfl)) (fun _ _ _ h => h) (Or.inl ⟨by rfl, ?_⟩) ?_ ?_
                           rotate_left;·intro w';go_simp;with_reducible rfl
                           rotate_left;·simp only [Act.put, pa_, pz_, pu_, i64_w, i32_w];rfl
                           refine pure_ (i:=14) (N:=some 129) (v:=?_) (a':=?_) #[true,true,true,true,true,true,true,true,true,true,true,true,true,true,true] rfl rfl (any_of HT_.out (by kernel_rfl)) (fun _ _ _ h => h) (Or.inl ⟨by rfl, ?_⟩) ?_ ?_
                           rotate_left;·intro w';go_simp;with_reducible rfl
                           rotate_left;·simp only [Act.put, pa_, pz_, pu_, i64_w, i32_w];rfl
                           refine done_ (done_of HT_.out (by kernel_rfl)) ?_
                           try go_wp2
                           (try (rw [drewN_self w77]; generalize hq_ : World.drewN w77 _ = w77; have n0_ : Aside0 (Kd.R (Kd.int .u32) 33 w77 w0.heap.size (fun k_ => (P0_ k_ ∨ w.heap.size ≤ k_)) (.slice (some ⟨go9, 0, none⟩) x0_3.length co13) x0_3) := ⟨by rw [← hq_]; exact (by (with_reducible repeat (first | apply Kd.R_alloc | apply Kd.R_drewN | apply Kd.R_drew)); exact HO_0.out)⟩; have n1_ : Aside0 (Kept w w77 (fun k_ => P0_ k_)) := ⟨by rw [← hq_]; exact (by repeat (first | (with_reducible first | exact HK.out | apply Kept.alloc | apply Kept.drewN | apply Kept.drew) | exact HK.out))⟩; have n2_ : Aside0 (Below w0.heap.size w0 w77) := ⟨by rw [← hq_]; exact (by repeat (first | (with_reducible first | exact HB.out | apply below_alloc | apply pw_below_drewN | apply below_drew1) | exact HB.out))⟩; clear HO_0 HK HB hq_; have HO_0 := n0_; have HK := n1_; have HB := n2_; clear n0_ n1_ n2_))
                           have n0_ := Aside0.mk (Kd.R_drew HO_0.out)
                           have n1_ := Aside0.mk (Kept.drew HK.out)
                           have n2_ := Aside0.mk (below_drew1 HB.out)
                           clear HO_0
                           clear HK
                           clear HB
                           have HO_0 := n0_
                           have HK := n1_
                           have HB := n2_
                           clear n0_ n1_ n2_
                           have p228 : 0 ≤ (a1 : Int) := of_decide_eq_true (by first | (with_reducible assumption) | assumption)
                           have q228 : a1 < (x0_3.length : Int) := of_decide_eq_true (by first | (with_reducible assumption) | assumption)
                           obtain ⟨ad228, e228, hx228_0⟩ := Kd.at_int (Kd.R_reads' HO_0.out).2.2 a1 p228 q228
                           obtain rfl : (⟨go9, 0, none⟩ : Addr) = ad228 := (by injection e228)
                           (first | simp only [add_plain] at hx228_0 | simp only [add_at] at hx228_0 | simp only [Addr.add, Nat.zero_add] at hx228_0 | skip)
                           replace p228 := eq_true p228
                           replace q228 := eq_true q228
                           have p229 : 0 ≤ (x11_5 : Int) := of_decide_eq_true (by first | (with_reducible assumption) | assumption)
                           have q229 : x11_5 < (x0_3.length : Int) := of_decide_eq_true (by first | (with_reducible assumption) | assumption)
                           obtain ⟨ad229, e229, hx229_0⟩ := Kd.at_int (Kd.R_reads' HO_0.out).2.2 x11_5 p229 q229
                           obtain rfl : (⟨go9, 0, none⟩ : Addr) = ad229 := (by injection e229)
                           (first | simp only [add_plain] at hx229_0 | simp only [add_at] at hx229_0 | simp only [Addr.add, Nat.zero_add] at hx229_0 | skip)
                           replace p229 := eq_true p229
                           replace q229 := eq_true q229
                           have p75 : 0 ≤ (x11_5 : Int) := of_decide_eq_true (by first | (with_reducible assumption) | assumption)
                           have q75 : (x11_5 : Int) < ((x0_3.length : Int) : Int) := of_decide_eq_true (by first | (with_reducible assumption) | assumption)
                           obtain ⟨hx75_0, hf75_0⟩ := Kd.R_celln 0 HO_0.out (x11_5 : Int) p75 q75
                           replace p75 := eq_true p75
                           replace q75 := eq_true q75
                           have HP79 := Kd.R_putn HO_0.out (x11_5 : Int) (rd x0_3 a1)
                           rw [← Ny230.out] at HP79
                           have HQ79 := Aside0.mk HP79
                           clear HP79
                           have p76 : 0 ≤ (a1 : Int) := of_decide_eq_true (by first | (with_reducible assumption) | assumption)
                           have q76 : (a1 : Int) < ((x0_3.length : Int) : Int) := of_decide_eq_true (by first | (with_reducible assumption) | assumption)
                           obtain ⟨hx76_0, hf76_0⟩ := Kd.R_celln 0 HQ79.out (a1 : Int) p76 q76
                           replace p76 := eq_true p76
                           replace q76 := eq_true q76
                           have HP80 := Kd.R_putn HQ79.out (a1 : Int) (rd x0_3 x11_5)
                           rw [← Ny231.out] at HP80
                           have HQ80 := Aside0.mk HP80
                           clear HP80
                           refine start_ (n:=16) (S := fun w' => w'.cell? ⟨go9, (a1).toNat, none⟩ = some (.int .u32 (rd x0_3 a1)) ∧ w'.cell? ⟨go9, (x11_5).toNat, none⟩ = some (.int .u32 (rd x0_3 x11_5))) (ds := [13, 15]) #[false,false,false,false,false,false,false,false,false,false,false,false,false,false,false,false] (by kernel_rfl) rfl rfl ⟨hx228_0, hx229_0⟩ (fun hHeld => ?_); refine with_tabW slices_partitionOrdered_uint32.tab21 slices_partitionOrdered_uint32.bits21 (fun HT_ HW_ => ?_)
                           generalize w77.drew = w78 at HO_0 HK HB HQ79 HQ80 hf75_0 hf76_0 hx228_0 hx229_0 hx75_0 hx76_0 hHeld ⊢
                           refine pure_ (i:=0) (N:=some 153) (v:=?_) (a':=?_) #[true,false,false,false,false,false,false,false,false,false,false,false,false,false,false,false] rfl rfl (any_of HT_.out (by kernel_rfl)) (fun _ _ _ h => h) (Or.inl ⟨by rfl, ?_⟩) ?_ ?_
                           rotate_left;·intro w';go_simp;with_reducible rfl
                           rotate_left;·simp only [Act.put, pa_, pz_, pu_, i64_w, i32_w];rfl
                           refine pure_ (i:=1) (N:=some 154) (v:=?_) (a':=?_) #[true,true,false,false,false,false,false,false,false,false,false,false,false,false,false,false] rfl rfl (any_of HT_.out (by kernel_rfl)) (fun _ _ _ h => h) (Or.inl ⟨by rfl, ?_⟩) ?_ ?_
                           rotate_left;·intro w';go_simp;with_reducible rfl
                           rotate_left;·simp only [Act.put, pa_, pz_, pu_, i64_w, i32_w];rfl
                           refine pure_ (i:=2) (N:=some 155) (v:=?_) (a':=?_) #[true,true,true,false,false,false,false,false,false,false,false,false,false,false,false,false] rfl rfl (any_of HT_.out (by kernel_rfl)) (fun _ _ _ h => h) (Or.inl ⟨by rfl, ?_⟩) ?_ ?_
                           rotate_left;·intro w';go_simp;with_reducible rfl
                           rotate_left;·simp only [Act.put, pa_, pz_, pu_, i64_w, i32_w];rfl
                           refine pure_ (i:=3) (N:=some 156) (v:=?_) (a':=?_) #[true,true,true,true,false,false,false,false,false,false,false,false,false,false,false,false] rfl rfl (any_of HT_.out (by kernel_rfl)) (fun _ _ _ h => h) (Or.inl ⟨by rfl, ?_⟩) ?_ ?_
                           rotate_left;·intro w';go_simp;with_reducible rfl
                           rotate_left;·simp only [Act.put, pa_, pz_, pu_, i64_w, i32_w];rfl
                           refine pure_ (i:=4) (N:=some 157) (v:=?_) (a':=?_) #[true,true,true,true,true,false,false,false,false,false,false,false,false,false,false,false] rfl rfl (any_of HT_.out (by kernel_rfl)) (fun _ _ _ h => h) (Or.inl ⟨by rfl, ?_⟩) ?_ ?_
                           rotate_left;·intro w';go_simp;with_reducible rfl
                           rotate_left;·simp only [Act.put, pa_, pz_, pu_, i64_w, i32_w];rfl
                           refine pure_ (i:=5) (N:=some 158) (v:=?_) (a':=?_) #[true,true,true,true,true,true,false,false,false,false,false,false,false,false,false,false] rfl rfl (any_of HT_.out (by kernel_rfl)) (fun _ _ _ h => h) (Or.inl ⟨by rfl, ?_⟩) ?_ ?_
                           rotate_left;·intro w';go_simp;with_reducible rfl
                           rotate_left;·simp only [Act.put, pa_, pz_, pu_, i64_w, i32_w];rfl
                           refine pure_ (i:=6) (N:=some 159) (v:=?_) (a':=?_) #[true,true,true,true,true,true,true,false,false,false,false,false,false,false,false,false] rfl rfl (any_of HT_.out (by kernel_rfl)) (fun _ _ _ h => h) (Or.inl ⟨by rfl, ?_⟩) ?_ ?_
                           rotate_left;·intro w';go_simp;with_reducible rfl
                           rotate_left;·simp only [Act.put, pa_, pz_, pu_, i64_w, i32_w];rfl
                           refine pure_ (i:=8) (N:=some 161) (v:=?_) (a':=?_) #[true,true,true,true,true,true,true,false,true,false,false,false,false,false,false,false] rfl rfl (any_of HT_.out (by kernel_rfl)) (fun _ _ _ h => h) (Or.inl ⟨by rfl, ?_⟩) ?_ ?_
                           rotate_left;·intro w';go_simp;with_reducible rfl
                           rotate_left;·simp only [Act.put, pa_, pz_, pu_, i64_w, i32_w];rfl
                           refine pure_ (i:=9) (N:=some 162) (v:=?_) (a':=?_) #[true,true,true,true,true,true,true,false,true,true,false,false,false,false,false,false] rfl rfl (any_of HT_.out (by kernel_rfl)) (fun _ _ _ h => h) (Or.inl ⟨by rfl, ?_⟩) ?_ ?_
                           rotate_left;·intro w';go_simp;with_reducible rfl
                           rotate_left;·simp only [Act.put, pa_, pz_, pu_, i64_w, i32_w];rfl
                           refine pure_ (i:=10) (N:=some 163) (v:=?_) (a':=?_) #[true,true,true,true,true,true,true,false,true,true,true,false,false,false,false,false] rfl rfl (any_of HT_.out (by kernel_rfl)) (fun _ _ _ h => h) (Or.inl ⟨by rfl, ?_⟩) ?_ ?_
                           rotate_left;·intro w';go_simp;with_reducible rfl
                           rotate_left;·simp only [Act.put, pa_, pz_, pu_, i64_w, i32_w];rfl
                           refine take_ (i:=7) (N:=some 160) (v:=?_) (a':=?_) #[true,true,true,true,true,true,true,true,true,true,true,false,false,false,false,false] rfl rfl (take_ofW HT_.out HW_.out (by kernel_rfl)) (fun _ _ _ h => h) (Or.inl ⟨by rfl, ?_⟩) hHeld ?_ ?_
                           rotate_left;·rintro w' ⟨s0, s1⟩;go_simp;with_reducible rfl
                           rotate_left;·simp only [Act.put, pa_, pz_, pu_, i64_w, i32_w];rfl
                           refine take_ (i:=11) (N:=some 164) (v:=?_) (a':=?_) #[true,true,true,true,true,true,true,true,true,true,true,true,false,false,false,false] rfl rfl (take_ofW HT_.out HW_.out (by kernel_rfl)) (fun _ _ _ h => h) (Or.inl ⟨by rfl, ?_⟩) hHeld ?_ ?_
                           rotate_left;·rintro w' ⟨s0, s1⟩;go_simp;with_reducible rfl
                           rotate_left;·simp only [Act.put, pa_, pz_, pu_, i64_w, i32_w];rfl
                           refine pure_ (i:=12) (N:=some 165) (v:=?_) (a':=?_) #[true,true,true,true,true,true,true,true,true,true,true,true,true,false,false,false] rfl rfl (any_of HT_.out (by kernel_rfl)) (fun _ _ _ h => h) (Or.inl ⟨by rfl, ?_⟩) ?_ ?_
                           rotate_left;·intro w';go_simp;with_reducible rfl
                           rotate_left;·simp only [Act.put, pa_, pz_, pu_, i64_w, i32_w];rfl
                           refine last_ (i:=13) (N:=none) #[true,true,true,true,true,true,true,true,true,true,true,true,true,true,false,false] rfl rfl (one_of HT_.out (by kernel_rfl)) (by decide) (fun K hK => ?_)
                           refine skip_ (w1 := ?_) (by rfl) rfl ?_ ?_
                           rotate_left
                           ·go_simp
                            rfl
                           refine hK.out _ _ ?_
                           clear hK K
                           refine pure_ (i:=14) (N:=some 166) (v:=?_) (a':=?_) #[true,true,true,true,true,true,true,true,true,true,true,true,true,true,true,false] rfl rfl (any_of HT_.out (by kernel_rfl)) (fun _ _ _ h => h) (Or.inl ⟨by rfl, ?_⟩) ?_ ?_
                           rotate_left;·intro w';go_simp;with_reducible rfl
                           rotate_left;·simp only [Act.put, pa_, pz_, pu_, i64_w, i32_w];rfl
                           refine last_ (i:=15) (N:=none) #[true,true,true,true,true,true,true,true,true,true,true,true,true,true,true,true] rfl rfl (one_of HT_.out (by kernel_rfl)) (by decide) (fun K hK => ?_)
                           refine skip_ (w1 := ?_) (by rfl) rfl ?_ ?_
                           rotate_left
                           ·go_simp
                            rfl
                           refine hK.out _ _ ?_
                           clear hK K
                           refine done_ (done_of HT_.out (by kernel_rfl)) ?_
                           try go_wp2
                           go_ret2
                           exact ⟨by first | rfl | (simp [errW_none, errW_some] <;> rfl) | (simp [*, errW_none, errW_some] <;> rfl), (by first | exact (by (with_reducible repeat (first | apply Kd.R_alloc | apply Kd.R_drewN | apply Kd.R_drew)); exact HQ80.out) | (simp only [hl0_10, hl0_3]; exact (by (with_reducible repeat (first | apply Kd.R_alloc | apply Kd.R_drewN | apply Kd.R_drew)); exact HQ80.out))), by repeat (first | (with_reducible first | exact HB.out | apply below_alloc | apply pw_below_drewN | apply below_drew1 | refine below_set ?_ GB9.out | refine below_set ?_ GB9.out) | exact HB.out), by repeat (first | (with_reducible first | exact HK.out | apply Kept.alloc | apply Kept.drewN | apply Kept.drew | refine Kept.setCell ?_ HMgo9.out _ | refine Kept.setCell ?_ HMgo9.out _) | exact HK.out)⟩
                          ·rw [if_neg c74] at H
                           have c74b0 : decide (x11_5 < x10_55) = false := decide_eq_false c74
                           clear c74
                           by_cases c81 : 0 ≤ x10_55
                           ·rw [if_pos c81] at H
                            have c81b0 : decide (0 ≤ x10_55) = true := decide_eq_true c81
                            clear c81
                            by_cases c82 : x10_55 < (x0_3.length : Int)
                            ·rw [if_pos c82] at H
                             have c82b0 : decide (x10_55 < (x0_3.length : Int)) = true := decide_eq_true c82
                             clear c82
                             obtain ⟨y234, hy234⟩ : ∃ y_ : List Int, y_ = (x0_3.set (x10_55 : Int).toNat (rd x0_3 x11_5)) := ⟨_, rfl⟩
                             replace H : (slices_partitionOrdered_uint32.l2 k5 (y234.set (x11_5 : Int).toNat (rd x0_3 x10_55)) a1 (wrap64 (x10_55 + 1)) (wrap64 (x11_5 - 1))) = some (r1, r2, r3) := by first | (rw [hy234]; with_reducible exact H) | (have H2_ := (Option.bind_some _ _).symm.trans H; rw [hy234]; with_reducible exact H2_) | (have H2_ := (Option.bind_some _ _).symm.trans H; with_reducible exact H2_) | with_reducible exact H | (rw [hy234]; exact H) | exact H
                             have Ny234 := Aside0.mk hy234
                             clear hy234
                             obtain ⟨y235, hy235⟩ : ∃ y_ : List Int, y_ = (y234.set (x11_5 : Int).toNat (rd x0_3 x10_55)) := ⟨_, rfl⟩
                             replace H : (slices_partitionOrdered_uint32.l2 k5 y235 a1 (wrap64 (x10_55 + 1)) (wrap64 (x11_5 - 1))) = some (r1, r2, r3) := by first | (rw [hy235]; with_reducible exact H) | (have H2_ := (Option.bind_some _ _).symm.trans H; rw [hy235]; with_reducible exact H2_) | (have H2_ := (Option.bind_some _ _).symm.trans H; with_reducible exact H2_) | with_reducible exact H | (rw [hy235]; exact H) | exact H
                             have Ny235 := Aside0.mk hy235
                             clear hy235
                             have H' := Aside0.mk H
                             clear H
                             try go_wp2
                             have n0_ := Aside0.mk (Kd.R_drew HO_0.out)
                             have n1_ := Aside0.mk (Kept.drew HK.out)
                             have n2_ := Aside0.mk (below_drew1 HB.out)
                             clear HO_0
                             clear HK
                             clear HB
                             have HO_0 := n0_
                             have HK := n1_
                             have HB := n2_
                             clear n0_ n1_ n2_
                             have p225 : 0 ≤ (x11_5 : Int) := of_decide_eq_true (by first | (with_reducible assumption) | assumption)
                             have q225 : x11_5 < (x0_3.length : Int) := of_decide_eq_true (by first | (with_reducible assumption) | assumption)
                             obtain ⟨ad225, e225, hx225_0⟩ := Kd.at_int (Kd.R_reads' HO_0.out).2.2 x11_5 p225 q225
                             obtain rfl : (⟨go9, 0, none⟩ : Addr) = ad225 := (by injection e225)
                             (first | simp only [add_plain] at hx225_0 | simp only [add_at] at hx225_0 | simp only [Addr.add, Nat.zero_add] at hx225_0 | skip)
                             replace p225 := eq_true p225
                             replace q225 := eq_true q225
                             have p226 : 0 ≤ (a1 : Int) := of_decide_eq_true (by first | (with_reducible assumption) | assumption)
                             have q226 : a1 < (x0_3.length : Int) := of_decide_eq_true (by first | (with_reducible assumption) | assumption)
                             obtain ⟨ad226, e226, hx226_0⟩ := Kd.at_int (Kd.R_reads' HO_0.out).2.2 a1 p226 q226
                             obtain rfl : (⟨go9, 0, none⟩ : Addr) = ad226 := (by injection e226)
                             (first | simp only [add_plain] at hx226_0 | simp only [add_at] at hx226_0 | simp only [Addr.add, Nat.zero_add] at hx226_0 | skip)
                             replace p226 := eq_true p226
                             replace q226 := eq_true q226
                             refine start_ (n:=15) (S := fun w' => w'.cell? ⟨go9, (x11_5).toNat, none⟩ = some (.int .u32 (rd x0_3 x11_5)) ∧ w'.cell? ⟨go9, (a1).toNat, none⟩ = some (.int .u32 (rd x0_3 a1))) (ds := []) #[false,false,false,false,false,false,false,false,false,false,false,false,false,false,false] (by kernel_rfl) rfl rfl ⟨hx225_0, hx226_0⟩ (fun hHeld => ?_); refine with_tabW slices_partitionOrdered_uint32.tab15 slices_partitionOrdered_uint32.bits15 (fun HT_ HW_ => ?_)
                             generalize wr.drew = w85 at HO_0 HK HB hx225_0 hx226_0 hHeld ⊢
                             refine pure_ (i:=0) (N:=some 115) (v:=?_) (a':=?_) #[true,false,false,false,false,false,false,false,false,false,false,false,false,false,false] rfl rfl (any_of HT_.out (by kernel_rfl)) (fun _ _ _ h => h) (Or.inl ⟨by rfl, ?_⟩) ?_ ?_
                             rotate_left;·intro w';go_simp;with_reducible rfl
                             rotate_left;·simp only [Act.put, pa_, pz_, pu_, i64_w, i32_w];rfl
                             refine pure_ (i:=1) (N:=some 116) (v:=?_) (a':=?_) #[true,true,false,false,false,false,false,false,false,false,false,false,false,false,false] rfl rfl (any_of HT_.out (by kernel_rfl)) (fun _ _ _ h => h) (Or.inl ⟨by rfl, ?_⟩) ?_ ?_
                             rotate_left;·intro w';go_simp;with_reducible rfl
                             rotate_left;·simp only [Act.put, pa_, pz_, pu_, i64_w, i32_w];rfl
                             refine pure_ (i:=2) (N:=some 117) (v:=?_) (a':=?_) #[true,true,true,false,false,false,false,false,false,false,false,false,false,false,false] rfl rfl (any_of HT_.out (by kernel_rfl)) (fun _ _ _ h => h) (Or.inl ⟨by rfl, ?_⟩) ?_ ?_
                             rotate_left;·intro w';go_simp;with_reducible rfl
                             rotate_left;·simp only [Act.put, pa_, pz_, pu_, i64_w, i32_w];rfl
                             refine pure_ (i:=3) (N:=some 118) (v:=?_) (a':=?_) #[true,true,true,true,false,false,false,false,false,false,false,false,false,false,false] rfl rfl (any_of HT_.out (by kernel_rfl)) (fun _ _ _ h => h) (Or.inl ⟨by rfl, ?_⟩) ?_ ?_
                             rotate_left;·intro w';go_simp;with_reducible rfl
                             rotate_left;·simp only [Act.put, pa_, pz_, pu_, i64_w, i32_w];rfl
                             refine pure_ (i:=4) (N:=some 119) (v:=?_) (a':=?_) #[true,true,true,true,true,false,false,false,false,false,false,false,false,false,false] rfl rfl (any_of HT_.out (by kernel_rfl)) (fun _ _ _ h => h) (Or.inl ⟨by rfl, ?_⟩) ?_ ?_
                             rotate_left;·intro w';go_simp;with_reducible rfl
                             rotate_left;·simp only [Act.put, pa_, pz_, pu_, i64_w, i32_w];rfl
                             refine pure_ (i:=5) (N:=some 120) (v:=?_) (a':=?_) #[true,true,true,true,true,true,false,false,false,false,false,false,false,false,false] rfl rfl (any_of HT_.out (by kernel_rfl)) (fun _ _ _ h => h) (Or.inl ⟨by rfl, ?_⟩) ?_ ?_
                             rotate_left;·intro w';go_simp;with_reducible rfl
                             rotate_left;·simp only [Act.put, pa_, pz_, pu_, i64_w, i32_w];rfl
                             refine pure_ (i:=6) (N:=some 121) (v:=?_) (a':=?_) #[true,true,true,true,true,true,true,false,false,false,false,false,false,false,false] rfl rfl (any_of HT_.out (by kernel_rfl)) (fun _ _ _ h => h) (Or.inl ⟨by rfl, ?_⟩) ?_ ?_
                             rotate_left;·intro w';go_simp;with_reducible rfl
                             rotate_left;·simp only [Act.put, pa_, pz_, pu_, i64_w, i32_w];rfl
                             refine pure_ (i:=8) (N:=some 123) (v:=?_) (a':=?_) #[true,true,true,true,true,true,true,false,true,false,false,false,false,false,false] rfl rfl (any_of HT_.out (by kernel_rfl)) (fun _ _ _ h => h) (Or.inl ⟨by rfl, ?_⟩) ?_ ?_
                             rotate_left;·intro w';go_simp;with_reducible rfl
                             rotate_left;·simp only [Act.put, pa_, pz_, pu_, i64_w, i32_w];rfl
                             refine pure_ (i:=9) (N:=some 124) (v:=?_) (a':=?_) #[true,true,true,true,true,true,true,false,true,true,false,false,false,false,false] rfl rfl (any_of HT_.out (by kernel_rfl)) (fun _ _ _ h => h) (Or.inl ⟨by rfl, ?_⟩) ?_ ?_
                             rotate_left;·intro w';go_simp;with_reducible rfl
                             rotate_left;·simp only [Act.put, pa_, pz_, pu_, i64_w, i32_w];rfl
                             refine pure_ (i:=10) (N:=some 125) (v:=?_) (a':=?_) #[true,true,true,true,true,true,true,false,true,true,true,false,false,false,false] rfl rfl (any_of HT_.out (by kernel_rfl)) (fun _ _ _ h => h) (Or.inl ⟨by rfl, ?_⟩) ?_ ?_
                             rotate_left;·intro w';go_simp;with_reducible rfl
                             rotate_left;·simp only [Act.put, pa_, pz_, pu_, i64_w, i32_w];rfl
                             refine take_ (i:=7) (N:=some 122) (v:=?_) (a':=?_) #[true,true,true,true,true,true,true,true,true,true,true,false,false,false,false] rfl rfl (take_ofW HT_.out HW_.out (by kernel_rfl)) (fun _ _ _ h => h) (Or.inl ⟨by rfl, ?_⟩) hHeld ?_ ?_
                             rotate_left;·rintro w' ⟨s0, s1⟩;go_simp;with_reducible rfl
                             rotate_left;·simp only [Act.put, pa_, pz_, pu_, i64_w, i32_w];rfl
                             refine take_ (i:=11) (N:=some 126) (v:=?_) (a':=?_) #[true,true,true,true,true,true,true,true,true,true,true,true,false,false,false] rfl rfl (take_ofW HT_.out HW_.out (by kernel_rfl)) (fun _ _ _ h => h) (Or.inl ⟨by rfl, ?_⟩) hHeld ?_ ?_
                             rotate_left;·rintro w' ⟨s0, s1⟩;go_simp;with_reducible rfl
                             rotate_left;·simp only [Act.put, pa_, pz_, pu_, i64_w, i32_w];rfl
                             refine one_ (i:=12) (N:=some 127) #[true,true,true,true,true,true,true,true,true,true,true,true,true,false,false] rfl rfl (one_of HT_.out (by kernel_rfl)) (by decide) (fun K hK => ?_)
                             refine goes_ Tryd.func57 (by kernel_rfl) rfl #[.int .u32 (rd x0_3 x11_5), .int .u32 (rd x0_3 a1)] (by rfl) rfl rfl (by (try simp only [List.map_toArray, List.map_cons, List.map_nil]); first | done | rfl | (simp only [List.length_drop, List.length_take]; rfl)) ?_
                             with_reducible refine (cmp_Less_uint32.calls (rd x0_3 x11_5) (rd x0_3 a1) true _ A72.out).mono ?_
                             rintro e w' ⟨rfl, ⟨nd, rfl⟩⟩
                             refine ⟨_, rfl, ?_⟩
                             refine hK.out _ _ ⟨hHeld.1, hHeld.2⟩ (fun hHeld => ?_)
                             clear hK K
                             refine norm_ (a' := ?_) ?_ ?_
                             rotate_left
                             ·show Act.put _ (some 127) _ = _
                              simp only [Act.put, List.setIfInBounds_toArray, List.set_cons_zero, List.set_cons_succ, i64_w, i32_w]
                              rfl
                             refine pure_ (i:=13) (N:=some 128) (v:=?_) (a':=?_) #[true,true,true,true,true,true,true,true,true,true,true,true,true,true,false] rfl rfl (any_of HT_.out (by kernel_rfl)) (fun _ _ _ h => h) (Or.inl ⟨by rfl, ?_⟩) ?_ ?_
                             rotate_left;·intro w';go_simp;with_reducible rfl
                             rotate_left;·simp only [Act.put, pa_, pz_, pu_, i64_w, i32_w];rfl
                             refine pure_ (i:=14) (N:=some 129) (v:=?_) (a':=?_) #[true,true,true,true,true,true,true,true,true,true,true,true,true,true,true] rfl rfl (any_of HT_.out (by kernel_rfl)) (fun _ _ _ h => h) (Or.inl ⟨by rfl, ?_⟩) ?_ ?_
                             rotate_left;·intro w';go_simp;with_reducible rfl
                             rotate_left;·simp only [Act.put, pa_, pz_, pu_, i64_w, i32_w];rfl
                             refine done_ (done_of HT_.out (by kernel_rfl)) ?_
                             try go_wp2
                             (try (rw [drewN_self w85]; generalize hq_ : World.drewN w85 _ = w85; have n0_ : Aside0 (Kd.R (Kd.int .u32) 33 w85 w0.heap.size (fun k_ => (P0_ k_ ∨ w.heap.size ≤ k_)) (.slice (some ⟨go9, 0, none⟩) x0_3.length co13) x0_3) := ⟨by rw [← hq_]; exact (by (with_reducible repeat (first | apply Kd.R_alloc | apply Kd.R_drewN | apply Kd.R_drew)); exact HO_0.out)⟩; have n1_ : Aside0 (Kept w w85 (fun k_ => P0_ k_)) := ⟨by rw [← hq_]; exact (by repeat (first | (with_reducible first | exact HK.out | apply Kept.alloc | apply Kept.drewN | apply Kept.drew) | exact HK.out))⟩; have n2_ : Aside0 (Below w0.heap.size w0 w85) := ⟨by rw [← hq_]; exact (by repeat (first | (with_reducible first | exact HB.out | apply below_alloc | apply pw_below_drewN | apply below_drew1) | exact HB.out))⟩; clear HO_0 HK HB hq_; have HO_0 := n0_; have HK := n1_; have HB := n2_; clear n0_ n1_ n2_))
                             have n0_ := Aside0.mk (Kd.R_drew HO_0.out)
                             have n1_ := Aside0.mk (Kept.drew HK.out)
                             have n2_ := Aside0.mk (below_drew1 HB.out)
                             clear HO_0
                             clear HK
                             clear HB
                             have HO_0 := n0_
                             have HK := n1_
                             have HB := n2_
                             clear n0_ n1_ n2_
                             have p232 : 0 ≤ (x11_5 : Int) := of_decide_eq_true (by first | (with_reducible assumption) | assumption)
                             have q232 : x11_5 < (x0_3.length : Int) := of_decide_eq_true (by first | (with_reducible assumption) | assumption)
                             obtain ⟨ad232, e232, hx232_0⟩ := Kd.at_int (Kd.R_reads' HO_0.out).2.2 x11_5 p232 q232
                             obtain rfl : (⟨go9, 0, none⟩ : Addr) = ad232 := (by injection e232)
                             (first | simp only [add_plain] at hx232_0 | simp only [add_at] at hx232_0 | simp only [Addr.add, Nat.zero_add] at hx232_0 | skip)
                             replace p232 := eq_true p232
                             replace q232 := eq_true q232
                             have p233 : 0 ≤ (x10_55 : Int) := of_decide_eq_true (by first | (with_reducible assumption) | assumption)
                             have q233 : x10_55 < (x0_3.length : Int) := of_decide_eq_true (by first | (with_reducible assumption) | assumption)
                             obtain ⟨ad233, e233, hx233_0⟩ := Kd.at_int (Kd.R_reads' HO_0.out).2.2 x10_55 p233 q233
                             obtain rfl : (⟨go9, 0, none⟩ : Addr) = ad233 := (by injection e233)
                             (first | simp only [add_plain] at hx233_0 | simp only [add_at] at hx233_0 | simp only [Addr.add, Nat.zero_add] at hx233_0 | skip)
                             replace p233 := eq_true p233
                             replace q233 := eq_true q233
                             have p83 : 0 ≤ (x10_55 : Int) := of_decide_eq_true (by first | (with_reducible assumption) | assumption)
                             have q83 : (x10_55 : Int) < ((x0_3.length : Int) : Int) := of_decide_eq_true (by first | (with_reducible assumption) | assumption)
                             obtain ⟨hx83_0, hf83_0⟩ := Kd.R_celln 0 HO_0.out (x10_55 : Int) p83 q83
                             replace p83 := eq_true p83
                             replace q83 := eq_true q83
                             have HP87 := Kd.R_putn HO_0.out (x10_55 : Int) (rd x0_3 x11_5)
                             rw [← Ny234.out] at HP87
                             have HQ87 := Aside0.mk HP87
                             clear HP87
                             have p84 : 0 ≤ (x11_5 : Int) := of_decide_eq_true (by first | (with_reducible assumption) | assumption)
                             have q84 : (x11_5 : Int) < ((x0_3.length : Int) : Int) := of_decide_eq_true (by first | (with_reducible assumption) | assumption)
                             obtain ⟨hx84_0, hf84_0⟩ := Kd.R_celln 0 HQ87.out (x11_5 : Int) p84 q84
                             replace p84 := eq_true p84
                             replace q84 := eq_true q84
                             have HP88 := Kd.R_putn HQ87.out (x11_5 : Int) (rd x0_3 x10_55)
                             rw [← Ny235.out] at HP88
                             have HQ88 := Aside0.mk HP88
                             clear HP88
                             refine start_ (n:=16) (S := fun w' => w'.cell? ⟨go9, (x11_5).toNat, none⟩ = some (.int .u32 (rd x0_3 x11_5)) ∧ w'.cell? ⟨go9, (x10_55).toNat, none⟩ = some (.int .u32 (rd x0_3 x10_55))) (ds := [13, 15]) #[false,false,false,false,false,false,false,false,false,false,false,false,false,false,false,false] (by kernel_rfl) rfl rfl ⟨hx232_0, hx233_0⟩ (fun hHeld => ?_); refine with_tabW slices_partitionOrdered_uint32.tab18 slices_partitionOrdered_uint32.bits18 (fun HT_ HW_ => ?_)
                             generalize w85.drew = w86 at HO_0 HK HB HQ87 HQ88 hf83_0 hf84_0 hx232_0 hx233_0 hx83_0 hx84_0 hHeld ⊢
                             refine pure_ (i:=0) (N:=some 135) (v:=?_) (a':=?_) #[true,false,false,false,false,false,false,false,false,false,false,false,false,false,false,false] rfl rfl (any_of HT_.out (by kernel_rfl)) (fun _ _ _ h => h) (Or.inl ⟨by rfl, ?_⟩) ?_ ?_
                             rotate_left;·intro w';go_simp;with_reducible rfl
                             rotate_left;·simp only [Act.put, pa_, pz_, pu_, i64_w, i32_w];rfl
                             refine pure_ (i:=1) (N:=some 136) (v:=?_) (a':=?_) #[true,true,false,false,false,false,false,false,false,false,false,false,false,false,false,false] rfl rfl (any_of HT_.out (by kernel_rfl)) (fun _ _ _ h => h) (Or.inl ⟨by rfl, ?_⟩) ?_ ?_
                             rotate_left;·intro w';go_simp;with_reducible rfl
                             rotate_left;·simp only [Act.put, pa_, pz_, pu_, i64_w, i32_w];rfl
                             refine pure_ (i:=2) (N:=some 137) (v:=?_) (a':=?_) #[true,true,true,false,false,false,false,false,false,false,false,false,false,false,false,false] rfl rfl (any_of HT_.out (by kernel_rfl)) (fun _ _ _ h => h) (Or.inl ⟨by rfl, ?_⟩) ?_ ?_
                             rotate_left;·intro w';go_simp;with_reducible rfl
                             rotate_left;·simp only [Act.put, pa_, pz_, pu_, i64_w, i32_w];rfl
                             refine pure_ (i:=3) (N:=some 138) (v:=?_) (a':=?_) #[true,true,true,true,false,false,false,false,false,false,false,false,false,false,false,false] rfl rfl (any_of HT_.out (by kernel_rfl)) (fun _ _ _ h => h) (Or.inl ⟨by rfl, ?_⟩) ?_ ?_
                             rotate_left;·intro w';go_simp;with_reducible rfl
                             rotate_left;·simp only [Act.put, pa_, pz_, pu_, i64_w, i32_w];rfl
                             refine pure_ (i:=4) (N:=some 139) (v:=?_) (a':=?_) #[true,true,true,true,true,false,false,false,false,false,false,false,false,false,false,false] rfl rfl (any_of HT_.out (by kernel_rfl)) (fun _ _ _ h => h) (Or.inl ⟨by rfl, ?_⟩) ?_ ?_
                             rotate_left;·intro w';go_simp;with_reducible rfl
                             rotate_left;·simp only [Act.put, pa_, pz_, pu_, i64_w, i32_w];rfl
                             refine pure_ (i:=5) (N:=some 140) (v:=?_) (a':=?_) #[true,true,true,true,true,true,false,false,false,false,false,false,false,false,false,false] rfl rfl (any_of HT_.out (by kernel_rfl)) (fun _ _ _ h => h) (Or.inl ⟨by rfl, ?_⟩) ?_ ?_
                             rotate_left;·intro w';go_simp;with_reducible rfl
                             rotate_left;·simp only [Act.put, pa_, pz_, pu_, i64_w, i32_w];rfl
                             refine pure_ (i:=6) (N:=some 141) (v:=?_) (a':=?_) #[true,true,true,true,true,true,true,false,false,false,false,false,false,false,false,false] rfl rfl (any_of HT_.out (by kernel_rfl)) (fun _ _ _ h => h) (Or.inl ⟨by rfl, ?_⟩) ?_ ?_
                             rotate_left;·intro w';go_simp;with_reducible rfl
                             rotate_left;·simp only [Act.put, pa_, pz_, pu_, i64_w, i32_w];rfl
                             refine pure_ (i:=8) (N:=some 143) (v:=?_) (a':=?_) #[true,true,true,true,true,true,true,false,true,false,false,false,false,false,false,false] rfl rfl (any_of HT_.out (by kernel_rfl)) (fun _ _ _ h => h) (Or.inl ⟨by rfl, ?_⟩) ?_ ?_
                             rotate_left;·intro w';go_simp;with_reducible rfl
                             rotate_left;·simp only [Act.put, pa_, pz_, pu_, i64_w, i32_w];rfl
                             refine pure_ (i:=9) (N:=some 144) (v:=?_) (a':=?_) #[true,true,true,true,true,true,true,false,true,true,false,false,false,false,false,false] rfl rfl (any_of HT_.out (by kernel_rfl)) (fun _ _ _ h => h) (Or.inl ⟨by rfl, ?_⟩) ?_ ?_
                             rotate_left;·intro w';go_simp;with_reducible rfl
                             rotate_left;·simp only [Act.put, pa_, pz_, pu_, i64_w, i32_w];rfl
                             refine pure_ (i:=10) (N:=some 145) (v:=?_) (a':=?_) #[true,true,true,true,true,true,true,false,true,true,true,false,false,false,false,false] rfl rfl (any_of HT_.out (by kernel_rfl)) (fun _ _ _ h => h) (Or.inl ⟨by rfl, ?_⟩) ?_ ?_
                             rotate_left;·intro w';go_simp;with_reducible rfl
                             rotate_left;·simp only [Act.put, pa_, pz_, pu_, i64_w, i32_w];rfl
                             refine take_ (i:=7) (N:=some 142) (v:=?_) (a':=?_) #[true,true,true,true,true,true,true,true,true,true,true,false,false,false,false,false] rfl rfl (take_ofW HT_.out HW_.out (by kernel_rfl)) (fun _ _ _ h => h) (Or.inl ⟨by rfl, ?_⟩) hHeld ?_ ?_
                             rotate_left;·rintro w' ⟨s0, s1⟩;go_simp;with_reducible rfl
                             rotate_left;·simp only [Act.put, pa_, pz_, pu_, i64_w, i32_w];rfl
                             refine take_ (i:=11) (N:=some 146) (v:=?_) (a':=?_) #[true,true,true,true,true,true,true,true,true,true,true,true,false,false,false,false] rfl rfl (take_ofW HT_.out HW_.out (by kernel_rfl)) (fun _ _ _ h => h) (Or.inl ⟨by rfl, ?_⟩) hHeld ?_ ?_
                             rotate_left;·rintro w' ⟨s0, s1⟩;go_simp;with_reducible rfl
                             rotate_left;·simp only [Act.put, pa_, pz_, pu_, i64_w, i32_w];rfl
                             refine pure_ (i:=12) (N:=some 147) (v:=?_) (a':=?_) #[true,true,true,true,true,true,true,true,true,true,true,true,true,false,false,false] rfl rfl (any_of HT_.out (by kernel_rfl)) (fun _ _ _ h => h) (Or.inl ⟨by rfl, ?_⟩) ?_ ?_
                             rotate_left;·intro w';go_simp;with_reducible rfl
                             rotate_left;·simp only [Act.put, pa_, pz_, pu_, i64_w, i32_w];rfl
                             refine last_ (i:=13) (N:=none) #[true,true,true,true,true,true,true,true,true,true,true,true,true,true,false,false] rfl rfl (one_of HT_.out (by kernel_rfl)) (by decide) (fun K hK => ?_)
                             refine skip_ (w1 := ?_) (by rfl) rfl ?_ ?_
                             rotate_left
                             ·go_simp
                              rfl
                             refine hK.out _ _ ?_
                             clear hK K
                             refine pure_ (i:=14) (N:=some 148) (v:=?_) (a':=?_) #[true,true,true,true,true,true,true,true,true,true,true,true,true,true,true,false] rfl rfl (any_of HT_.out (by kernel_rfl)) (fun _ _ _ h => h) (Or.inl ⟨by rfl, ?_⟩) ?_ ?_
                             rotate_left;·intro w';go_simp;with_reducible rfl
                             rotate_left;·simp only [Act.put, pa_, pz_, pu_, i64_w, i32_w];rfl
                             refine last_ (i:=15) (N:=none) #[true,true,true,true,true,true,true,true,true,true,true,true,true,true,true,true] rfl rfl (one_of HT_.out (by kernel_rfl)) (by decide) (fun K hK => ?_)
                             refine skip_ (w1 := ?_) (by rfl) rfl ?_ ?_
                             rotate_left
                             ·go_simp
                              rfl
                             refine hK.out _ _ ?_
                             clear hK K
                             refine done_ (done_of HT_.out (by kernel_rfl)) ?_
                             try go_wp2
                             (try simp only [← hl0_3])
                             go_roundg k5
                             case measure => have := HJ10.out; have := HJ25.out; have := HK3.out; have := HJ55.out; have := HK5.out; omega
                             case rel => exact ⟨(y235), (wrap64 (x10_55 + 1)), (wrap64 (x11_5 - 1)), (by first | rfl | (simp; done) | (simp [*]; done)), (by first | rfl | (simp; done) | (simp [*]; done)), H', ⟨by have := HJ10.out; have := HJ25.out; have := HK3.out; have := HJ55.out; have := HK5.out; omega⟩, ⟨by (try simp only [hl0_10]); (try simp only [hl0_3]); (with_reducible repeat (first | apply Kd.R_alloc | apply Kd.R_drewN | apply Kd.R_drew)); exact HQ88.out⟩, ⟨by repeat (first | (with_reducible first | exact HK.out | apply Kept.alloc | apply Kept.drewN | apply Kept.drew | refine Kept.setCell ?_ HMgo9.out _ | refine Kept.setCell ?_ HMgo9.out _) | exact HK.out)⟩, ⟨by repeat (first | (with_reducible first | exact HB.out | apply below_alloc | apply pw_below_drewN | apply below_drew1 | refine below_set ?_ GB9.out | refine below_set ?_ GB9.out) | exact HB.out)⟩⟩
                            ·rw [if_neg c82] at H
                             exact absurd H (by simp)
                           ·rw [if_neg c81] at H
                            exact absurd H (by simp)
                         ·replace c73 := Bool.eq_false_iff.mpr c73
                          subst c73
                          have H1 : (slices_partitionOrdered_uint32.l4 k5 x0_3 a1 x10_55 (wrap64 (x11_5 - 1))) = some (r1, r2, r3) := by rw [if_neg (show ¬ (false = true) by decide)] at H; exact H
                          clear H
                          have H := H1
                          clear H1
                          have H' := Aside0.mk H
                          clear H
                          try go_wp2
                          have n0_ := Aside0.mk (Kd.R_drew HO_0.out)
                          have n1_ := Aside0.mk (Kept.drew HK.out)
                          have n2_ := Aside0.mk (below_drew1 HB.out)
                          clear HO_0
                          clear HK
                          clear HB
                          have HO_0 := n0_
                          have HK := n1_
                          have HB := n2_
                          clear n0_ n1_ n2_
                          have p225 : 0 ≤ (x11_5 : Int) := of_decide_eq_true (by first | (with_reducible assumption) | assumption)
                          have q225 : x11_5 < (x0_3.length : Int) := of_decide_eq_true (by first | (with_reducible assumption) | assumption)
                          obtain ⟨ad225, e225, hx225_0⟩ := Kd.at_int (Kd.R_reads' HO_0.out).2.2 x11_5 p225 q225
                          obtain rfl : (⟨go9, 0, none⟩ : Addr) = ad225 := (by injection e225)
                          (first | simp only [add_plain] at hx225_0 | simp only [add_at] at hx225_0 | simp only [Addr.add, Nat.zero_add] at hx225_0 | skip)
                          replace p225 := eq_true p225
                          replace q225 := eq_true q225
                          have p226 : 0 ≤ (a1 : Int) := of_decide_eq_true (by first | (with_reducible assumption) | assumption)
                          have q226 : a1 < (x0_3.length : Int) := of_decide_eq_true (by first | (with_reducible assumption) | assumption)
                          obtain ⟨ad226, e226, hx226_0⟩ := Kd.at_int (Kd.R_reads' HO_0.out).2.2 a1 p226 q226
                          obtain rfl : (⟨go9, 0, none⟩ : Addr) = ad226 := (by injection e226)
                          (first | simp only [add_plain] at hx226_0 | simp only [add_at] at hx226_0 | simp only [Addr.add, Nat.zero_add] at hx226_0 | skip)
                          replace p226 := eq_true p226
                          replace q226 := eq_true q226
                          refine start_ (n:=15) (S := fun w' => w'.cell? ⟨go9, (x11_5).toNat, none⟩ = some (.int .u32 (rd x0_3 x11_5)) ∧ w'.cell? ⟨go9, (a1).toNat, none⟩ = some (.int .u32 (rd x0_3 a1))) (ds := []) #[false,false,false,false,false,false,false,false,false,false,false,false,false,false,false] (by kernel_rfl) rfl rfl ⟨hx225_0, hx226_0⟩ (fun hHeld => ?_); refine with_tabW slices_partitionOrdered_uint32.tab15 slices_partitionOrdered_uint32.bits15 (fun HT_ HW_ => ?_)
                          generalize wr.drew = w89 at HO_0 HK HB hx225_0 hx226_0 hHeld ⊢
                          refine pure_ (i:=0) (N:=some 115) (v:=?_) (a':=?_) #[true,false,false,false,false,false,false,false,false,false,false,false,false,false,false] rfl rfl (any_of HT_.out (by kernel_rfl)) (fun _ _ _ h => h) (Or.inl ⟨by rfl, ?_⟩) ?_ ?_
                          rotate_left;·intro w';go_simp;with_reducible rfl
                          rotate_left;·simp only [Act.put, pa_, pz_, pu_, i64_w, i32_w];rfl
                          refine pure_ (i:=1) (N:=some 116) (v:=?_) (a':=?_) #[true,true,false,false,false,false,false,false,false,false,false,false,false,false,false] rfl rfl (any_of HT_.out (by kernel_rfl)) (fun _ _ _ h => h) (Or.inl ⟨by rfl, ?_⟩) ?_ ?_
                          rotate_left;·intro w';go_simp;with_reducible rfl
                          rotate_left;·simp only [Act.put, pa_, pz_, pu_, i64_w, i32_w];rfl
                          refine pure_ (i:=2) (N:=some 117) (v:=?_) (a':=?_) #[true,true,true,false,false,false,false,false,false,false,false,false,false,false,false] rfl rfl (any_of HT_.out (by kernel_rfl)) (fun _ _ _ h => h) (Or.inl ⟨by rfl, ?_⟩) ?_ ?_
                          rotate_left;·intro w';go_simp;with_reducible rfl
                          rotate_left;·simp only [Act.put, pa_, pz_, pu_, i64_w, i32_w];rfl
                          refine pure_ (i:=3) (N:=some 118) (v:=?_) (a':=?_) #[true,true,true,true,false,false,false,false,false,false,false,false,false,false,false] rfl rfl (any_of HT_.out (by kernel_rfl)) (fun _ _ _ h => h) (Or.inl ⟨by rfl, ?_⟩) ?_ ?_
                          rotate_left;·intro w';go_simp;with_reducible rfl
                          rotate_left;·simp only [Act.put, pa_, pz_, pu_, i64_w, i32_w];rfl
                          refine pure_ (i:=4) (N:=some 119) (v:=?_) (a':=?_) #[true,true,true,true,true,false,false,false,false,false,false,false,false,false,false] rfl rfl (any_of HT_.out (by kernel_rfl)) (fun _ _ _ h => h) (Or.inl ⟨by rfl, ?_⟩) ?_ ?_
                          rotate_left;·intro w';go_simp;with_reducible rfl
                          rotate_left;·simp only [Act.put, pa_, pz_, pu_, i64_w, i32_w];rfl
                          refine pure_ (i:=5) (N:=some 120) (v:=?_) (a':=?_) #[true,true,true,true,true,true,false,false,false,false,false,false,false,false,false] rfl rfl (any_of HT_.out (by kernel_rfl)) (fun _ _ _ h => h) (Or.inl ⟨by rfl, ?_⟩) ?_ ?_
                          rotate_left;·intro w';go_simp;with_reducible rfl
                          rotate_left;·simp only [Act.put, pa_, pz_, pu_, i64_w, i32_w];rfl
                          refine pure_ (i:=6) (N:=some 121) (v:=?_) (a':=?_) #[true,true,true,true,true,true,true,false,false,false,false,false,false,false,false] rfl rfl (any_of HT_.out (by kernel_rfl)) (fun _ _ _ h => h) (Or.inl ⟨by rfl, ?_⟩) ?_ ?_
                          rotate_left;·intro w';go_simp;with_reducible rfl
                          rotate_left;·simp only [Act.put, pa_, pz_, pu_, i64_w, i32_w];rfl
                          refine pure_ (i:=8) (N:=some 123) (v:=?_) (a':=?_) #[true,true,true,true,true,true,true,false,true,false,false,false,false,false,false] rfl rfl (any_of HT_.out (by kernel_rfl)) (fun _ _ _ h => h) (Or.inl ⟨by rfl, ?_⟩) ?_ ?_
                          rotate_left;·intro w';go_simp;with_reducible rfl
                          rotate_left;·simp only [Act.put, pa_, pz_, pu_, i64_w, i32_w];rfl
                          refine pure_ (i:=9) (N:=some 124) (v:=?_) (a':=?_) #[true,true,true,true,true,true,true,false,true,true,false,false,false,false,false] rfl rfl (any_of HT_.out (by kernel_rfl)) (fun _ _ _ h => h) (Or.inl ⟨by rfl, ?_⟩) ?_ ?_
                          rotate_left;·intro w';go_simp;with_reducible rfl
                          rotate_left;·simp only [Act.put, pa_, pz_, pu_, i64_w, i32_w];rfl
                          refine pure_ (i:=10) (N:=some 125) (v:=?_) (a':=?_) #[true,true,true,true,true,true,true,false,true,true,true,false,false,false,false] rfl rfl (any_of HT_.out (by kernel_rfl)) (fun _ _ _ h => h) (Or.inl ⟨by rfl, ?_⟩) ?_ ?_
                          rotate_left;·intro w';go_simp;with_reducible rfl
                          rotate_left;·simp only [Act.put, pa_, pz_, pu_, i64_w, i32_w];rfl
                          refine take_ (i:=7) (N:=some 122) (v:=?_) (a':=?_) #[true,true,true,true,true,true,true,true,true,true,true,false,false,false,false] rfl rfl (take_ofW HT_.out HW_.out (by kernel_rfl)) (fun _ _ _ h => h) (Or.inl ⟨by rfl, ?_⟩) hHeld ?_ ?_
                          rotate_left;·rintro w' ⟨s0, s1⟩;go_simp;with_reducible rfl
                          rotate_left;·simp only [Act.put, pa_, pz_, pu_, i64_w, i32_w];rfl
                          refine take_ (i:=11) (N:=some 126) (v:=?_) (a':=?_) #[true,true,true,true,true,true,true,true,true,true,true,true,false,false,false] rfl rfl (take_ofW HT_.out HW_.out (by kernel_rfl)) (fun _ _ _ h => h) (Or.inl ⟨by rfl, ?_⟩) hHeld ?_ ?_
                          rotate_left;·rintro w' ⟨s0, s1⟩;go_simp;with_reducible rfl
                          rotate_left;·simp only [Act.put, pa_, pz_, pu_, i64_w, i32_w];rfl
                          refine one_ (i:=12) (N:=some 127) #[true,true,true,true,true,true,true,true,true,true,true,true,true,false,false] rfl rfl (one_of HT_.out (by kernel_rfl)) (by decide) (fun K hK => ?_)
                          refine goes_ Tryd.func57 (by kernel_rfl) rfl #[.int .u32 (rd x0_3 x11_5), .int .u32 (rd x0_3 a1)] (by rfl) rfl rfl (by (try simp only [List.map_toArray, List.map_cons, List.map_nil]); first | done | rfl | (simp only [List.length_drop, List.length_take]; rfl)) ?_
                          with_reducible refine (cmp_Less_uint32.calls (rd x0_3 x11_5) (rd x0_3 a1) false _ A72.out).mono ?_
                          rintro e w' ⟨rfl, ⟨nd, rfl⟩⟩
                          refine ⟨_, rfl, ?_⟩
                          refine hK.out _ _ ⟨hHeld.1, hHeld.2⟩ (fun hHeld => ?_)
                          clear hK K
                          refine norm_ (a' := ?_) ?_ ?_
                          rotate_left
                          ·show Act.put _ (some 127) _ = _
                           simp only [Act.put, List.setIfInBounds_toArray, List.set_cons_zero, List.set_cons_succ, i64_w, i32_w]
                           rfl
                          refine pure_ (i:=13) (N:=some 128) (v:=?_) (a':=?_) #[true,true,true,true,true,true,true,true,true,true,true,true,true,true,false] rfl rfl (any_of HT_.out (by kernel_rfl)) (fun _ _ _ h => h) (Or.inl ⟨by rfl, ?_⟩) ?_ ?_
                          rotate_left;·intro w';go_simp;with_reducible rfl
                          rotate_left;·simp only [Act.put, pa_, pz_, pu_, i64_w, i32_w];rfl
                          refine pure_ (i:=14) (N:=some 129) (v:=?_) (a':=?_) #[true,true,true,true,true,true,true,true,true,true,true,true,true,true,true] rfl rfl (any_of HT_.out (by kernel_rfl)) (fun _ _ _ h => h) (Or.inl ⟨by rfl, ?_⟩) ?_ ?_
                          rotate_left;·intro w';go_simp;with_reducible rfl
                          rotate_left;·simp only [Act.put, pa_, pz_, pu_, i64_w, i32_w];rfl
                          refine done_ (done_of HT_.out (by kernel_rfl)) ?_
                          try go_wp2
                          go_roundg k5
                          case measure => have := HJ10.out; have := HJ25.out; have := HK3.out; have := HJ55.out; have := HK5.out; omega
                          case rel => exact ⟨(wrap64 (x11_5 - 1)), (by first | rfl | (simp; done) | (simp [*]; done)), H', ⟨by have := HJ10.out; have := HJ25.out; have := HK3.out; have := HJ55.out; have := HK5.out; omega⟩, ⟨by (try simp only [hl0_10]); (try simp only [hl0_3]); (with_reducible repeat (first | apply Kd.R_alloc | apply Kd.R_drewN | apply Kd.R_drew)); exact HO_0.out⟩, ⟨by repeat (first | (with_reducible first | exact HK.out | apply Kept.alloc | apply Kept.drewN | apply Kept.drew) | exact HK.out)⟩, ⟨by repeat (first | (with_reducible first | exact HB.out | apply below_alloc | apply pw_below_drewN | apply below_drew1) | exact HB.out)⟩⟩
                        ·rw [if_neg c71] at H
                         exact absurd H (by simp)
                       ·rw [if_neg c70] at H
                        exact absurd H (by simp)
                      ·rw [if_neg c69] at H
                       exact absurd H (by simp)
                     ·rw [if_neg c68] at H
                      exact absurd H (by simp)
                    ·rw [if_neg c67] at H
                     have c67b0 : decide (x10_55 ≤ x11_5) = false := decide_eq_false c67
                     clear c67
                     by_cases c90 : x10_55 > x11_5
                     ·rw [if_pos c90] at H
                      have c90b0 : decide (x11_5 < x10_55) = true := decide_eq_true c90
                      clear c90
                      by_cases c91 : 0 ≤ a1
                      ·rw [if_pos c91] at H
                       have c91b0 : decide (0 ≤ a1) = true := decide_eq_true c91
                       clear c91
                       by_cases c92 : a1 < (x0_3.length : Int)
                       ·rw [if_pos c92] at H
                        have c92b0 : decide (a1 < (x0_3.length : Int)) = true := decide_eq_true c92
                        clear c92
                        by_cases c93 : 0 ≤ x11_5
                        ·rw [if_pos c93] at H
                         have c93b0 : decide (0 ≤ x11_5) = true := decide_eq_true c93
                         clear c93
                         by_cases c94 : x11_5 < (x0_3.length : Int)
                         ·rw [if_pos c94] at H
                          have c94b0 : decide (x11_5 < (x0_3.length : Int)) = true := decide_eq_true c94
                          clear c94
                          obtain ⟨y238, hy238⟩ : ∃ y_ : List Int, y_ = (x0_3.set (x11_5 : Int).toNat (rd x0_3 a1)) := ⟨_, rfl⟩
                          replace H : (some (x11_5, false, (y238.set (a1 : Int).toNat (rd x0_3 x11_5)))) = some (r1, r2, r3) := by first | (rw [hy238]; with_reducible exact H) | (have H2_ := (Option.bind_some _ _).symm.trans H; rw [hy238]; with_reducible exact H2_) | (have H2_ := (Option.bind_some _ _).symm.trans H; with_reducible exact H2_) | with_reducible exact H | (rw [hy238]; exact H) | exact H
                          have Ny238 := Aside0.mk hy238
                          clear hy238
                          obtain ⟨y239, hy239⟩ : ∃ y_ : List Int, y_ = (y238.set (a1 : Int).toNat (rd x0_3 x11_5)) := ⟨_, rfl⟩
                          replace H : (some (x11_5, false, y239)) = some (r1, r2, r3) := by first | (rw [hy239]; with_reducible exact H) | (have H2_ := (Option.bind_some _ _).symm.trans H; rw [hy239]; with_reducible exact H2_) | (have H2_ := (Option.bind_some _ _).symm.trans H; with_reducible exact H2_) | with_reducible exact H | (rw [hy239]; exact H) | exact H
                          have Ny239 := Aside0.mk hy239
                          clear hy239
                          simp only [Option.some.injEq, Prod.mk.injEq] at H
                          obtain ⟨rfl, rfl, rfl⟩ := H
                          try go_wp2
                          have n0_ := Aside0.mk (Kd.R_drew HO_0.out)
                          have n1_ := Aside0.mk (Kept.drew HK.out)
                          have n2_ := Aside0.mk (below_drew1 HB.out)
                          clear HO_0
                          clear HK
                          clear HB
                          have HO_0 := n0_
                          have HK := n1_
                          have HB := n2_
                          clear n0_ n1_ n2_
                          refine start_ (n:=15) (S := fun w' => True) (ds := []) #[false,false,false,false,false,false,false,false,false,false,false,false,false,false,false] (by kernel_rfl) rfl rfl trivial (fun hHeld => ?_); refine with_tabW slices_partitionOrdered_uint32.tab15 slices_partitionOrdered_uint32.bits15 (fun HT_ HW_ => ?_)
                          generalize wr.drew = w97 at HO_0 HK HB hHeld ⊢
                          refine pure_ (i:=0) (N:=some 115) (v:=?_) (a':=?_) #[true,false,false,false,false,false,false,false,false,false,false,false,false,false,false] rfl rfl (any_of HT_.out (by kernel_rfl)) (fun _ _ _ h => h) (Or.inl ⟨by rfl, ?_⟩) ?_ ?_
                          rotate_left;·intro w';go_simp;with_reducible rfl
                          rotate_left;·simp only [Act.put, pa_, pz_, pu_, i64_w, i32_w];rfl
                          refine pure_ (i:=1) (N:=some 116) (v:=?_) (a':=?_) #[true,true,false,false,false,false,false,false,false,false,false,false,false,false,false] rfl rfl (any_of HT_.out (by kernel_rfl)) (fun _ _ _ h => h) (Or.inl ⟨by rfl, ?_⟩) ?_ ?_
                          rotate_left;·intro w';go_simp;with_reducible rfl
                          rotate_left;·simp only [Act.put, pa_, pz_, pu_, i64_w, i32_w];rfl
                          refine pure_ (i:=2) (N:=some 117) (v:=?_) (a':=?_) #[true,true,true,false,false,false,false,false,false,false,false,false,false,false,false] rfl rfl (any_of HT_.out (by kernel_rfl)) (fun _ _ _ h => h) (Or.inl ⟨by rfl, ?_⟩) ?_ ?_
                          rotate_left;·intro w';go_simp;with_reducible rfl
                          rotate_left;·simp only [Act.put, pa_, pz_, pu_, i64_w, i32_w];rfl
                          refine pure_ (i:=3) (N:=some 118) (v:=?_) (a':=?_) #[true,true,true,true,false,false,false,false,false,false,false,false,false,false,false] rfl rfl (any_of HT_.out (by kernel_rfl)) (fun _ _ _ h => h) (Or.inl ⟨by rfl, ?_⟩) ?_ ?_
                          rotate_left;·intro w';go_simp;with_reducible rfl
                          rotate_left;·simp only [Act.put, pa_, pz_, pu_, i64_w, i32_w];rfl
                          refine pure_ (i:=4) (N:=some 119) (v := undef) (a' := ?_) #[true,true,true,true,true,false,false,false,false,false,false,false,false,false,false] rfl rfl (any_of HT_.out (by kernel_rfl)) (fun _ _ _ h => h) (Or.inr ⟨by rfl, rfl⟩) ?_ ?_
                          rotate_left;·simp only [Act.put, pa_, pz_, pu_, i64_w, i32_w];rfl
                          refine pure_ (i:=5) (N:=some 120) (v := undef) (a' := ?_) #[true,true,true,true,true,true,false,false,false,false,false,false,false,false,false] rfl rfl (any_of HT_.out (by kernel_rfl)) (fun _ _ _ h => h) (Or.inr ⟨by rfl, rfl⟩) ?_ ?_
                          rotate_left;·simp only [Act.put, pa_, pz_, pu_, i64_w, i32_w];rfl
                          refine pure_ (i:=6) (N:=some 121) (v := undef) (a' := ?_) #[true,true,true,true,true,true,true,false,false,false,false,false,false,false,false] rfl rfl (any_of HT_.out (by kernel_rfl)) (fun _ _ _ h => h) (Or.inr ⟨by rfl, rfl⟩) ?_ ?_
                          rotate_left;·simp only [Act.put, pa_, pz_, pu_, i64_w, i32_w];rfl
                          refine pure_ (i:=7) (N:=some 122) (v := undef) (a' := ?_) #[true,true,true,true,true,true,true,true,false,false,false,false,false,false,false] rfl rfl (any_of HT_.out (by kernel_rfl)) (fun _ _ _ h => h) (Or.inr ⟨by rfl, rfl⟩) ?_ ?_
                          rotate_left;·simp only [Act.put, pa_, pz_, pu_, i64_w, i32_w];rfl
                          refine pure_ (i:=8) (N:=some 123) (v := undef) (a' := ?_) #[true,true,true,true,true,true,true,true,true,false,false,false,false,false,false] rfl rfl (any_of HT_.out (by kernel_rfl)) (fun _ _ _ h => h) (Or.inr ⟨by rfl, rfl⟩) ?_ ?_
                          rotate_left;·simp only [Act.put, pa_, pz_, pu_, i64_w, i32_w];rfl
                          refine pure_ (i:=9) (N:=some 124) (v := undef) (a' := ?_) #[true,true,true,true,true,true,true,true,true,true,false,false,false,false,false] rfl rfl (any_of HT_.out (by kernel_rfl)) (fun _ _ _ h => h) (Or.inr ⟨by rfl, rfl⟩) ?_ ?_
                          rotate_left;·simp only [Act.put, pa_, pz_, pu_, i64_w, i32_w];rfl
                          refine pure_ (i:=10) (N:=some 125) (v := undef) (a' := ?_) #[true,true,true,true,true,true,true,true,true,true,true,false,false,false,false] rfl rfl (any_of HT_.out (by kernel_rfl)) (fun _ _ _ h => h) (Or.inr ⟨by rfl, rfl⟩) ?_ ?_
                          rotate_left;·simp only [Act.put, pa_, pz_, pu_, i64_w, i32_w];rfl
                          refine pure_ (i:=11) (N:=some 126) (v := undef) (a' := ?_) #[true,true,true,true,true,true,true,true,true,true,true,true,false,false,false] rfl rfl (any_of HT_.out (by kernel_rfl)) (fun _ _ _ h => h) (Or.inr ⟨by rfl, rfl⟩) ?_ ?_
                          rotate_left;·simp only [Act.put, pa_, pz_, pu_, i64_w, i32_w];rfl
                          refine pure_ (i:=12) (N:=some 127) (v := undef) (a' := ?_) #[true,true,true,true,true,true,true,true,true,true,true,true,true,false,false] rfl rfl (any_of HT_.out (by kernel_rfl)) (fun _ _ _ h => h) (Or.inr ⟨by rfl, rfl⟩) ?_ ?_
                          rotate_left;·simp only [Act.put, pa_, pz_, pu_, i64_w, i32_w];rfl
                          refine pure_ (i:=13) (N:=some 128) (v := undef) (a' := ?_) #[true,true,true,true,true,true,true,true,true,true,true,true,true,true,false] rfl rfl (any_of HT_.out (by kernel_rfl)) (fun _ _ _ h => h) (Or.inr ⟨by rfl, rfl⟩) ?_ ?_
                          rotate_left;·simp only [Act.put, pa_, pz_, pu_, i64_w, i32_w];rfl
                          refine pure_ (i:=14) (N:=some 129) (v:=?_) (a':=?_) #[true,true,true,true,true,true,true,true,true,true,true,true,true,true,true] rfl rfl (any_of HT_.out (by kernel_rfl)) (fun _ _ _ h => h) (Or.inl ⟨by rfl, ?_⟩) ?_ ?_
                          rotate_left;·intro w';go_simp;with_reducible rfl
                          rotate_left;·simp only [Act.put, pa_, pz_, pu_, i64_w, i32_w];rfl
                          refine done_ (done_of HT_.out (by kernel_rfl)) ?_
                          try go_wp2
                          have n0_ := Aside0.mk (Kd.R_drew HO_0.out)
                          have n1_ := Aside0.mk (Kept.drew HK.out)
                          have n2_ := Aside0.mk (below_drew1 HB.out)
                          clear HO_0
                          clear HK
                          clear HB
                          have HO_0 := n0_
                          have HK := n1_
                          have HB := n2_
                          clear n0_ n1_ n2_
                          have p236 : 0 ≤ (a1 : Int) := of_decide_eq_true (by first | (with_reducible assumption) | assumption)
                          have q236 : a1 < (x0_3.length : Int) := of_decide_eq_true (by first | (with_reducible assumption) | assumption)
                          obtain ⟨ad236, e236, hx236_0⟩ := Kd.at_int (Kd.R_reads' HO_0.out).2.2 a1 p236 q236
                          obtain rfl : (⟨go9, 0, none⟩ : Addr) = ad236 := (by injection e236)
                          (first | simp only [add_plain] at hx236_0 | simp only [add_at] at hx236_0 | simp only [Addr.add, Nat.zero_add] at hx236_0 | skip)
                          replace p236 := eq_true p236
                          replace q236 := eq_true q236
                          have p237 : 0 ≤ (x11_5 : Int) := of_decide_eq_true (by first | (with_reducible assumption) | assumption)
                          have q237 : x11_5 < (x0_3.length : Int) := of_decide_eq_true (by first | (with_reducible assumption) | assumption)
                          obtain ⟨ad237, e237, hx237_0⟩ := Kd.at_int (Kd.R_reads' HO_0.out).2.2 x11_5 p237 q237
                          obtain rfl : (⟨go9, 0, none⟩ : Addr) = ad237 := (by injection e237)
                          (first | simp only [add_plain] at hx237_0 | simp only [add_at] at hx237_0 | simp only [Addr.add, Nat.zero_add] at hx237_0 | skip)
                          replace p237 := eq_true p237
                          replace q237 := eq_true q237
                          have p95 : 0 ≤ (x11_5 : Int) := of_decide_eq_true (by first | (with_reducible assumption) | assumption)
                          have q95 : (x11_5 : Int) < ((x0_3.length : Int) : Int) := of_decide_eq_true (by first | (with_reducible assumption) | assumption)
                          obtain ⟨hx95_0, hf95_0⟩ := Kd.R_celln 0 HO_0.out (x11_5 : Int) p95 q95
                          replace p95 := eq_true p95
                          replace q95 := eq_true q95
                          have HP99 := Kd.R_putn HO_0.out (x11_5 : Int) (rd x0_3 a1)
                          rw [← Ny238.out] at HP99
                          have HQ99 := Aside0.mk HP99
                          clear HP99
                          have p96 : 0 ≤ (a1 : Int) := of_decide_eq_true (by first | (with_reducible assumption) | assumption)
                          have q96 : (a1 : Int) < ((x0_3.length : Int) : Int) := of_decide_eq_true (by first | (with_reducible assumption) | assumption)
                          obtain ⟨hx96_0, hf96_0⟩ := Kd.R_celln 0 HQ99.out (a1 : Int) p96 q96
                          replace p96 := eq_true p96
                          replace q96 := eq_true q96
                          have HP100 := Kd.R_putn HQ99.out (a1 : Int) (rd x0_3 x11_5)
                          rw [← Ny239.out] at HP100
                          have HQ100 := Aside0.mk HP100
                          clear HP100
                          refine start_ (n:=16) (S := fun w' => w'.cell? ⟨go9, (a1).toNat, none⟩ = some (.int .u32 (rd x0_3 a1)) ∧ w'.cell? ⟨go9, (x11_5).toNat, none⟩ = some (.int .u32 (rd x0_3 x11_5))) (ds := [13, 15]) #[false,false,false,false,false,false,false,false,false,false,false,false,false,false,false,false] (by kernel_rfl) rfl rfl ⟨hx236_0, hx237_0⟩ (fun hHeld => ?_); refine with_tabW slices_partitionOrdered_uint32.tab21 slices_partitionOrdered_uint32.bits21 (fun HT_ HW_ => ?_)
                          generalize w97.drew = w98 at HO_0 HK HB HQ100 HQ99 hf95_0 hf96_0 hx236_0 hx237_0 hx95_0 hx96_0 hHeld ⊢
                          refine pure_ (i:=0) (N:=some 153) (v:=?_) (a':=?_) #[true,false,false,false,false,false,false,false,false,false,false,false,false,false,false,false] rfl rfl (any_of HT_.out (by kernel_rfl)) (fun _ _ _ h => h) (Or.inl ⟨by rfl, ?_⟩) ?_ ?_
                          rotate_left;·intro w';go_simp;with_reducible rfl
                          rotate_left;·simp only [Act.put, pa_, pz_, pu_, i64_w, i32_w];rfl
                          refine pure_ (i:=1) (N:=some 154) (v:=?_) (a':=?_) #[true,true,false,false,false,false,false,false,false,false,false,false,false,false,false,false] rfl rfl (any_of HT_.out (by kernel_rfl)) (fun _ _ _ h => h) (Or.inl ⟨by rfl, ?_⟩) ?_ ?_
                          rotate_left;·intro w';go_simp;with_reducible rfl
                          rotate_left;·simp only [Act.put, pa_, pz_, pu_, i64_w, i32_w];rfl
                          refine pure_ (i:=2) (N:=some 155) (v:=?_) (a':=?_) #[true,true,true,false,false,false,false,false,false,false,false,false,false,false,false,false] rfl rfl (any_of HT_.out (by kernel_rfl)) (fun _ _ _ h => h) (Or.inl ⟨by rfl, ?_⟩) ?_ ?_
                          rotate_left;·intro w';go_simp;with_reducible rfl
                          rotate_left;·simp only [Act.put, pa_, pz_, pu_, i64_w, i32_w];rfl
                          refine pure_ (i:=3) (N:=some 156) (v:=?_) (a':=?_) #[true,true,true,true,false,false,false,false,false,false,false,false,false,false,false,false] rfl rfl (any_of HT_.out (by kernel_rfl)) (fun _ _ _ h => h) (Or.inl ⟨by rfl, ?_⟩) ?_ ?_
                          rotate_left;·intro w';go_simp;with_reducible rfl
                          rotate_left;·simp only [Act.put, pa_, pz_, pu_, i64_w, i32_w];rfl
                          refine pure_ (i:=4) (N:=some 157) (v:=?_) (a':=?_) #[true,true,true,true,true,false,false,false,false,false,false,false,false,false,false,false] rfl rfl (any_of HT_.out (by kernel_rfl)) (fun _ _ _ h => h) (Or.inl ⟨by rfl, ?_⟩) ?_ ?_
                          rotate_left;·intro w';go_simp;with_reducible rfl
                          rotate_left;·simp only [Act.put, pa_, pz_, pu_, i64_w, i32_w];rfl
                          refine pure_ (i:=5) (N:=some 158) (v:=?_) (a':=?_) #[true,true,true,true,true,true,false,false,false,false,false,false,false,false,false,false] rfl rfl (any_of HT_.out (by kernel_rfl)) (fun _ _ _ h => h) (Or.inl ⟨by rfl, ?_⟩) ?_ ?_
                          rotate_left;·intro w';go_simp;with_reducible rfl
                          rotate_left;·simp only [Act.put, pa_, pz_, pu_, i64_w, i32_w];rfl
                          refine pure_ (i:=6) (N:=some 159) (v:=?_) (a':=?_) #[true,true,true,true,true,true,true,false,false,false,false,false,false,false,false,false] rfl rfl (any_of HT_.out (by kernel_rfl)) (fun _ _ _ h => h) (Or.inl ⟨by rfl, ?_⟩) ?_ ?_
                          rotate_left;·intro w';go_simp;with_reducible rfl
                          rotate_left;·simp only [Act.put, pa_, pz_, pu_, i64_w, i32_w];rfl
                          refine pure_ (i:=8) (N:=some 161) (v:=?_) (a':=?_) #[true,true,true,true,true,true,true,false,true,false,false,false,false,false,false,false] rfl rfl (any_of HT_.out (by kernel_rfl)) (fun _ _ _ h => h) (Or.inl ⟨by rfl, ?_⟩) ?_ ?_
                          rotate_left;·intro w';go_simp;with_reducible rfl
                          rotate_left;·simp only [Act.put, pa_, pz_, pu_, i64_w, i32_w];rfl
                          refine pure_ (i:=9) (N:=some 162) (v:=?_) (a':=?_) #[true,true,true,true,true,true,true,false,true,true,false,false,false,false,false,false] rfl rfl (any_of HT_.out (by kernel_rfl)) (fun _ _ _ h => h) (Or.inl ⟨by rfl, ?_⟩) ?_ ?_
                          rotate_left;·intro w';go_simp;with_reducible rfl
                          rotate_left;·simp only [Act.put, pa_, pz_, pu_, i64_w, i32_w];rfl
                          refine pure_ (i:=10) (N:=some 163) (v:=?_) (a':=?_) #[true,true,true,true,true,true,true,false,true,true,true,false,false,false,false,false] rfl rfl (any_of HT_.out (by kernel_rfl)) (fun _ _ _ h => h) (Or.inl ⟨by rfl, ?_⟩) ?_ ?_
                          rotate_left;·intro w';go_simp;with_reducible rfl
                          rotate_left;·simp only [Act.put, pa_, pz_, pu_, i64_w, i32_w];rfl
                          refine take_ (i:=7) (N:=some 160) (v:=?_) (a':=?_) #[true,true,true,true,true,true,true,true,true,true,true,false,false,false,false,false] rfl rfl (take_ofW HT_.out HW_.out (by kernel_rfl)) (fun _ _ _ h => h) (Or.inl ⟨by rfl, ?_⟩) hHeld ?_ ?_
                          rotate_left;·rintro w' ⟨s0, s1⟩;go_simp;with_reducible rfl
                          rotate_left;·simp only [Act.put, pa_, pz_, pu_, i64_w, i32_w];rfl
                          refine take_ (i:=11) (N:=some 164) (v:=?_) (a':=?_) #[true,true,true,true,true,true,true,true,true,true,true,true,false,false,false,false] rfl rfl (take_ofW HT_.out HW_.out (by kernel_rfl)) (fun _ _ _ h => h) (Or.inl ⟨by rfl, ?_⟩) hHeld ?_ ?_
                          rotate_left;·rintro w' ⟨s0, s1⟩;go_simp;with_reducible rfl
                          rotate_left;·simp only [Act.put, pa_, pz_, pu_, i64_w, i32_w];rfl
                          refine pure_ (i:=12) (N:=some 165) (v:=?_) (a':=?_) #[true,true,true,true,true,true,true,true,true,true,true,true,true,false,false,false] rfl rfl (any_of HT_.out (by kernel_rfl)) (fun _ _ _ h => h) (Or.inl ⟨by rfl, ?_⟩) ?_ ?_
                          rotate_left;·intro w';go_simp;with_reducible rfl
                          rotate_left;·simp only [Act.put, pa_, pz_, pu_, i64_w, i32_w];rfl
                          refine last_ (i:=13) (N:=none) #[true,true,true,true,true,true,true,true,true,true,true,true,true,true,false,false] rfl rfl (one_of HT_.out (by kernel_rfl)) (by decide) (fun K hK => ?_)
                          refine skip_ (w1 := ?_) (by rfl) rfl ?_ ?_
                          rotate_left
                          ·go_simp
                           rfl
                          refine hK.out _ _ ?_
                          clear hK K
                          refine pure_ (i:=14) (N:=some 166) (v:=?_) (a':=?_) #[true,true,true,true,true,true,true,true,true,true,true,true,true,true,true,false] rfl rfl (any_of HT_.out (by kernel_rfl)) (fun _ _ _ h => h) (Or.inl ⟨by rfl, ?_⟩) ?_ ?_
                          rotate_left;·intro w';go_simp;with_reducible rfl
                          rotate_left;·simp only [Act.put, pa_, pz_, pu_, i64_w, i32_w];rfl
                          refine last_ (i:=15) (N:=none) #[true,true,true,true,true,true,true,true,true,true,true,true,true,true,true,true] rfl rfl (one_of HT_.out (by kernel_rfl)) (by decide) (fun K hK => ?_)
                          refine skip_ (w1 := ?_) (by rfl) rfl ?_ ?_
                          rotate_left
                          ·go_simp
                           rfl
                          refine hK.out _ _ ?_
                          clear hK K
                          refine done_ (done_of HT_.out (by kernel_rfl)) ?_
                          try go_wp2
                          go_ret2
                          exact ⟨by first | rfl | (simp [errW_none, errW_some] <;> rfl) | (simp [*, errW_none, errW_some] <;> rfl), (by first | exact (by (with_reducible repeat (first | apply Kd.R_alloc | apply Kd.R_drewN | apply Kd.R_drew)); exact HQ100.out) | (simp only [hl0_10, hl0_3]; exact (by (with_reducible repeat (first | apply Kd.R_alloc | apply Kd.R_drewN | apply Kd.R_drew)); exact HQ100.out))), by repeat (first | (with_reducible first | exact HB.out | apply below_alloc | apply pw_below_drewN | apply below_drew1 | refine below_set ?_ GB9.out | refine below_set ?_ GB9.out) | exact HB.out), by repeat (first | (with_reducible first | exact HK.out | apply Kept.alloc | apply Kept.drewN | apply Kept.drew | refine Kept.setCell ?_ HMgo9.out _ | refine Kept.setCell ?_ HMgo9.out _) | exact HK.out)⟩
                         ·rw [if_neg c94] at H
                          exact absurd H (by simp)
                        ·rw [if_neg c93] at H
                         exact absurd H (by simp)
                       ·rw [if_neg c92] at H
                        exact absurd H (by simp)
                      ·rw [if_neg c91] at H
                       exact absurd H (by simp)
                     ·rw [if_neg c90] at H
                      have c90b0 : decide (x11_5 < x10_55) = false := decide_eq_false c90
                      clear c90
                      by_cases c101 : 0 ≤ x11_5
                      ·rw [if_pos c101] at H
                       have c101b0 : decide (0 ≤ x11_5) = true := decide_eq_true c101
                       clear c101
                       by_cases c102 : x11_5 < (x0_3.length : Int)
                       ·rw [if_pos c102] at H
                        have c102b0 : decide (x11_5 < (x0_3.length : Int)) = true := decide_eq_true c102
                        clear c102
                        by_cases c103 : 0 ≤ x10_55
                        ·rw [if_pos c103] at H
                         have c103b0 : decide (0 ≤ x10_55) = true := decide_eq_true c103
                         clear c103
                         by_cases c104 : x10_55 < (x0_3.length : Int)
                         ·rw [if_pos c104] at H
                          have c104b0 : decide (x10_55 < (x0_3.length : Int)) = true := decide_eq_true c104
                          clear c104
                          obtain ⟨y242, hy242⟩ : ∃ y_ : List Int, y_ = (x0_3.set (x10_55 : Int).toNat (rd x0_3 x11_5)) := ⟨_, rfl⟩
                          replace H : (slices_partitionOrdered_uint32.l2 k5 (y242.set (x11_5 : Int).toNat (rd x0_3 x10_55)) a1 (wrap64 (x10_55 + 1)) (wrap64 (x11_5 - 1))) = some (r1, r2, r3) := by first | (rw [hy242]; with_reducible exact H) | (have H2_ := (Option.bind_some _ _).symm.trans H; rw [hy242]; with_reducible exact H2_) | (have H2_ := (Option.bind_some _ _).symm.trans H; with_reducible exact H2_) | with_reducible exact H | (rw [hy242]; exact H) | exact H
                          have Ny242 := Aside0.mk hy242
                          clear hy242
                          obtain ⟨y243, hy243⟩ : ∃ y_ : List Int, y_ = (y242.set (x11_5 : Int).toNat (rd x0_3 x10_55)) := ⟨_, rfl⟩
                          replace H : (slices_partitionOrdered_uint32.l2 k5 y243 a1 (wrap64 (x10_55 + 1)) (wrap64 (x11_5 - 1))) = some (r1, r2, r3) := by first | (rw [hy243]; with_reducible exact H) | (have H2_ := (Option.bind_some _ _).symm.trans H; rw [hy243]; with_reducible exact H2_) | (have H2_ := (Option.bind_some _ _).symm.trans H; with_reducible exact H2_) | with_reducible exact H | (rw [hy243]; exact H) | exact H
                          have Ny243 := Aside0.mk hy243
                          clear hy243
                          have H' := Aside0.mk H
                          clear H
                          try go_wp2
                          have n0_ := Aside0.mk (Kd.R_drew HO_0.out)
                          have n1_ := Aside0.mk (Kept.drew HK.out)
                          have n2_ := Aside0.mk (below_drew1 HB.out)
                          clear HO_0
                          clear HK
                          clear HB
                          have HO_0 := n0_
                          have HK := n1_
                          have HB := n2_
                          clear n0_ n1_ n2_
                          refine start_ (n:=15) (S := fun w' => True) (ds := []) #[false,false,false,false,false,false,false,false,false,false,false,false,false,false,false] (by kernel_rfl) rfl rfl trivial (fun hHeld => ?_); refine with_tabW slices_partitionOrdered_uint32.tab15 slices_partitionOrdered_uint32.bits15 (fun HT_ HW_ => ?_)
                          generalize wr.drew = w107 at HO_0 HK HB hHeld ⊢
                          refine pure_ (i:=0) (N:=some 115) (v:=?_) (a':=?_) #[true,false,false,false,false,false,false,false,false,false,false,false,false,false,false] rfl rfl (any_of HT_.out (by kernel_rfl)) (fun _ _ _ h => h) (Or.inl ⟨by rfl, ?_⟩) ?_ ?_
                          rotate_left;·intro w';go_simp;with_reducible rfl
                          rotate_left;·simp only [Act.put, pa_, pz_, pu_, i64_w, i32_w];rfl
                          refine pure_ (i:=1) (N:=some 116) (v:=?_) (a':=?_) #[true,true,false,false,false,false,false,false,false,false,false,false,false,false,false] rfl rfl (any_of HT_.out (by kernel_rfl)) (fun _ _ _ h => h) (Or.inl ⟨by rfl, ?_⟩) ?_ ?_
                          rotate_left;·intro w';go_simp;with_reducible rfl
                          rotate_left;·simp only [Act.put, pa_, pz_, pu_, i64_w, i32_w];rfl
                          refine pure_ (i:=2) (N:=some 117) (v:=?_) (a':=?_) #[true,true,true,false,false,false,false,false,false,false,false,false,false,false,false] rfl rfl (any_of HT_.out (by kernel_rfl)) (fun _ _ _ h => h) (Or.inl ⟨by rfl, ?_⟩) ?_ ?_
                          rotate_left;·intro w';go_simp;with_reducible rfl
                          rotate_left;·simp only [Act.put, pa_, pz_, pu_, i64_w, i32_w];rfl
                          refine pure_ (i:=3) (N:=some 118) (v:=?_) (a':=?_) #[true,true,true,true,false,false,false,false,false,false,false,false,false,false,false] rfl rfl (any_of HT_.out (by kernel_rfl)) (fun _ _ _ h => h) (Or.inl ⟨by rfl, ?_⟩) ?_ ?_
                          rotate_left;·intro w';go_simp;with_reducible rfl
                          rotate_left;·simp only [Act.put, pa_, pz_, pu_, i64_w, i32_w];rfl
                          refine pure_ (i:=4) (N:=some 119) (v := undef) (a' := ?_) #[true,true,true,true,true,false,false,false,false,false,false,false,false,false,false] rfl rfl (any_of HT_.out (by kernel_rfl)) (fun _ _ _ h => h) (Or.inr ⟨by rfl, rfl⟩) ?_ ?_
                          rotate_left;·simp only [Act.put, pa_, pz_, pu_, i64_w, i32_w];rfl
                          refine pure_ (i:=5) (N:=some 120) (v := undef) (a' := ?_) #[true,true,true,true,true,true,false,false,false,false,false,false,false,false,false] rfl rfl (any_of HT_.out (by kernel_rfl)) (fun _ _ _ h => h) (Or.inr ⟨by rfl, rfl⟩) ?_ ?_
                          rotate_left;·simp only [Act.put, pa_, pz_, pu_, i64_w, i32_w];rfl
                          refine pure_ (i:=6) (N:=some 121) (v := undef) (a' := ?_) #[true,true,true,true,true,true,true,false,false,false,false,false,false,false,false] rfl rfl (any_of HT_.out (by kernel_rfl)) (fun _ _ _ h => h) (Or.inr ⟨by rfl, rfl⟩) ?_ ?_
                          rotate_left;·simp only [Act.put, pa_, pz_, pu_, i64_w, i32_w];rfl
                          refine pure_ (i:=7) (N:=some 122) (v := undef) (a' := ?_) #[true,true,true,true,true,true,true,true,false,false,false,false,false,false,false] rfl rfl (any_of HT_.out (by kernel_rfl)) (fun _ _ _ h => h) (Or.inr ⟨by rfl, rfl⟩) ?_ ?_
                          rotate_left;·simp only [Act.put, pa_, pz_, pu_, i64_w, i32_w];rfl
                          refine pure_ (i:=8) (N:=some 123) (v := undef) (a' := ?_) #[true,true,true,true,true,true,true,true,true,false,false,false,false,false,false] rfl rfl (any_of HT_.out (by kernel_rfl)) (fun _ _ _ h => h) (Or.inr ⟨by rfl, rfl⟩) ?_ ?_
                          rotate_left;·simp only [Act.put, pa_, pz_, pu_, i64_w, i32_w];rfl
                          refine pure_ (i:=9) (N:=some 124) (v := undef) (a' := ?_) #[true,true,true,true,true,true,true,true,true,true,false,false,false,false,false] rfl rfl (any_of HT_.out (by kernel_rfl)) (fun _ _ _ h => h) (Or.inr ⟨by rfl, rfl⟩) ?_ ?_
                          rotate_left;·simp only [Act.put, pa_, pz_, pu_, i64_w, i32_w];rfl
                          refine pure_ (i:=10) (N:=some 125) (v := undef) (a' := ?_) #[true,true,true,true,true,true,true,true,true,true,true,false,false,false,false] rfl rfl (any_of HT_.out (by kernel_rfl)) (fun _ _ _ h => h) (Or.inr ⟨by rfl, rfl⟩) ?_ ?_
                          rotate_left;·simp only [Act.put, pa_, pz_, pu_, i64_w, i32_w];rfl
                          refine pure_ (i:=11) (N:=some 126) (v := undef) (a' := ?_) #[true,true,true,true,true,true,true,true,true,true,true,true,false,false,false] rfl rfl (any_of HT_.out (by kernel_rfl)) (fun _ _ _ h => h) (Or.inr ⟨by rfl, rfl⟩) ?_ ?_
                          rotate_left;·simp only [Act.put, pa_, pz_, pu_, i64_w, i32_w];rfl
                          refine pure_ (i:=12) (N:=some 127) (v := undef) (a' := ?_) #[true,true,true,true,true,true,true,true,true,true,true,true,true,false,false] rfl rfl (any_of HT_.out (by kernel_rfl)) (fun _ _ _ h => h) (Or.inr ⟨by rfl, rfl⟩) ?_ ?_
                          rotate_left;·simp only [Act.put, pa_, pz_, pu_, i64_w, i32_w];rfl
                          refine pure_ (i:=13) (N:=some 128) (v := undef) (a' := ?_) #[true,true,true,true,true,true,true,true,true,true,true,true,true,true,false] rfl rfl (any_of HT_.out (by kernel_rfl)) (fun _ _ _ h => h) (Or.inr ⟨by rfl, rfl⟩) ?_ ?_
                          rotate_left;·simp only [Act.put, pa_, pz_, pu_, i64_w, i32_w];rfl
                          refine pure_ (i:=14) (N:=some 129) (v:=?_) (a':=?_) #[true,true,true,true,true,true,true,true,true,true,true,true,true,true,true] rfl rfl (any_of HT_.out (by kernel_rfl)) (fun _ _ _ h => h) (Or.inl ⟨by rfl, ?_⟩) ?_ ?_
                          rotate_left;·intro w';go_simp;with_reducible rfl
                          rotate_left;·simp only [Act.put, pa_, pz_, pu_, i64_w, i32_w];rfl
                          refine done_ (done_of HT_.out (by kernel_rfl)) ?_
                          try go_wp2
                          have n0_ := Aside0.mk (Kd.R_drew HO_0.out)
                          have n1_ := Aside0.mk (Kept.drew HK.out)
                          have n2_ := Aside0.mk (below_drew1 HB.out)
                          clear HO_0
                          clear HK
                          clear HB
                          have HO_0 := n0_
                          have HK := n1_
                          have HB := n2_
                          clear n0_ n1_ n2_
                          have p240 : 0 ≤ (x11_5 : Int) := of_decide_eq_true (by first | (with_reducible assumption) | assumption)
                          have q240 : x11_5 < (x0_3.length : Int) := of_decide_eq_true (by first | (with_reducible assumption) | assumption)
                          obtain ⟨ad240, e240, hx240_0⟩ := Kd.at_int (Kd.R_reads' HO_0.out).2.2 x11_5 p240 q240
                          obtain rfl : (⟨go9, 0, none⟩ : Addr) = ad240 := (by injection e240)
                          (first | simp only [add_plain] at hx240_0 | simp only [add_at] at hx240_0 | simp only [Addr.add, Nat.zero_add] at hx240_0 | skip)
                          replace p240 := eq_true p240
                          replace q240 := eq_true q240
                          have p241 : 0 ≤ (x10_55 : Int) := of_decide_eq_true (by first | (with_reducible assumption) | assumption)
                          have q241 : x10_55 < (x0_3.length : Int) := of_decide_eq_true (by first | (with_reducible assumption) | assumption)
                          obtain ⟨ad241, e241, hx241_0⟩ := Kd.at_int (Kd.R_reads' HO_0.out).2.2 x10_55 p241 q241
                          obtain rfl : (⟨go9, 0, none⟩ : Addr) = ad241 := (by injection e241)
                          (first | simp only [add_plain] at hx241_0 | simp only [add_at] at hx241_0 | simp only [Addr.add, Nat.zero_add] at hx241_0 | skip)
                          replace p241 := eq_true p241
                          replace q241 := eq_true q241
                          have p105 : 0 ≤ (x10_55 : Int) := of_decide_eq_true (by first | (with_reducible assumption) | assumption)
                          have q105 : (x10_55 : Int) < ((x0_3.length : Int) : Int) := of_decide_eq_true (by first | (with_reducible assumption) | assumption)
                          obtain ⟨hx105_0, hf105_0⟩ := Kd.R_celln 0 HO_0.out (x10_55 : Int) p105 q105
                          replace p105 := eq_true p105
                          replace q105 := eq_true q105
                          have HP109 := Kd.R_putn HO_0.out (x10_55 : Int) (rd x0_3 x11_5)
                          rw [← Ny242.out] at HP109
                          have HQ109 := Aside0.mk HP109
                          clear HP109
                          have p106 : 0 ≤ (x11_5 : Int) := of_decide_eq_true (by first | (with_reducible assumption) | assumption)
                          have q106 : (x11_5 : Int) < ((x0_3.length : Int) : Int) := of_decide_eq_true (by first | (with_reducible assumption) | assumption)
                          obtain ⟨hx106_0, hf106_0⟩ := Kd.R_celln 0 HQ109.out (x11_5 : Int) p106 q106
                          replace p106 := eq_true p106
                          replace q106 := eq_true q106
                          have HP110 := Kd.R_putn HQ109.out (x11_5 : Int) (rd x0_3 x10_55)
                          rw [← Ny243.out] at HP110
                          have HQ110 := Aside0.mk HP110
                          clear HP110
                          refine start_ (n:=16) (S := fun w' => w'.cell? ⟨go9, (x11_5).toNat, none⟩ = some (.int .u32 (rd x0_3 x11_5)) ∧ w'.cell? ⟨go9, (x10_55).toNat, none⟩ = some (.int .u32 (rd x0_3 x10_55))) (ds := [13, 15]) #[false,false,false,false,false,false,false,false,false,false,false,false,false,false,false,false] (by kernel_rfl) rfl rfl ⟨hx240_0, hx241_0⟩ (fun hHeld => ?_); refine with_tabW slices_partitionOrdered_uint32.tab18 slices_partitionOrdered_uint32.bits18 (fun HT_ HW_ => ?_)
                          generalize w107.drew = w108 at HO_0 HK HB HQ109 HQ110 hf105_0 hf106_0 hx105_0 hx106_0 hx240_0 hx241_0 hHeld ⊢
                          refine pure_ (i:=0) (N:=some 135) (v:=?_) (a':=?_) #[true,false,false,false,false,false,false,false,false,false,false,false,false,false,false,false] rfl rfl (any_of HT_.out (by kernel_rfl)) (fun _ _ _ h => h) (Or.inl ⟨by rfl, ?_⟩) ?_ ?_
                          rotate_left;·intro w';go_simp;with_reducible rfl
                          rotate_left;·simp only [Act.put, pa_, pz_, pu_, i64_w, i32_w];rfl
                          refine pure_ (i:=1) (N:=some 136) (v:=?_) (a':=?_) #[true,true,false,false,false,false,false,false,false,false,false,false,false,false,false,false] rfl rfl (any_of HT_.out (by kernel_rfl)) (fun _ _ _ h => h) (Or.inl ⟨by rfl, ?_⟩) ?_ ?_
                          rotate_left;·intro w';go_simp;with_reducible rfl
                          rotate_left;·simp only [Act.put, pa_, pz_, pu_, i64_w, i32_w];rfl
                          refine pure_ (i:=2) (N:=some 137) (v:=?_) (a':=?_) #[true,true,true,false,false,false,false,false,false,false,false,false,false,false,false,false] rfl rfl (any_of HT_.out (by kernel_rfl)) (fun _ _ _ h => h) (Or.inl ⟨by rfl, ?_⟩) ?_ ?_
                          rotate_left;·intro w';go_simp;with_reducible rfl
                          rotate_left;·simp only [Act.put, pa_, pz_, pu_, i64_w, i32_w];rfl
                          refine pure_ (i:=3) (N:=some 138) (v:=?_) (a':=?_) #[true,true,true,true,false,false,false,false,false,false,false,false,false,false,false,false] rfl rfl (any_of HT_.out (by kernel_rfl)) (fun _ _ _ h => h) (Or.inl ⟨by rfl, ?_⟩) ?_ ?_
                          rotate_left;·intro w';go_simp;with_reducible rfl
                          rotate_left;·simp only [Act.put, pa_, pz_, pu_, i64_w, i32_w];rfl
                          refine pure_ (i:=4) (N:=some 139) (v:=?_) (a':=?_) #[true,true,true,true,true,false,false,false,false,false,false,false,false,false,false,false] rfl rfl (any_of HT_.out (by kernel_rfl)) (fun _ _ _ h => h) (Or.inl ⟨by rfl, ?_⟩) ?_ ?_
                          rotate_left;·intro w';go_simp;with_reducible rfl
                          rotate_left;·simp only [Act.put, pa_, pz_, pu_, i64_w, i32_w];rfl
                          refine pure_ (i:=5) (N:=some 140) (v:=?_) (a':=?_) #[true,true,true,true,true,true,false,false,false,false,false,false,false,false,false,false] rfl rfl (any_of HT_.out (by kernel_rfl)) (fun _ _ _ h => h) (Or.inl ⟨by rfl, ?_⟩) ?_ ?_
                          rotate_left;·intro w';go_simp;with_reducible rfl
                          rotate_left;·simp only [Act.put, pa_, pz_, pu_, i64_w, i32_w];rfl
                          refine pure_ (i:=6) (N:=some 141) (v:=?_) (a':=?_) #[true,true,true,true,true,true,true,false,false,false,false,false,false,false,false,false] rfl rfl (any_of HT_.out (by kernel_rfl)) (fun _ _ _ h => h) (Or.inl ⟨by rfl, ?_⟩) ?_ ?_
                          rotate_left;·intro w';go_simp;with_reducible rfl
                          rotate_left;·simp only [Act.put, pa_, pz_, pu_, i64_w, i32_w];rfl
                          refine pure_ (i:=8) (N:=some 143) (v:=?_) (a':=?_) #[true,true,true,true,true,true,true,false,true,false,false,false,false,false,false,false] rfl rfl (any_of HT_.out (by kernel_rfl)) (fun _ _ _ h => h) (Or.inl ⟨by rfl, ?_⟩) ?_ ?_
                          rotate_left;·intro w';go_simp;with_reducible rfl
                          rotate_left;·simp only [Act.put, pa_, pz_, pu_, i64_w, i32_w];rfl
                          refine pure_ (i:=9) (N:=some 144) (v:=?_) (a':=?_) #[true,true,true,true,true,true,true,false,true,true,false,false,false,false,false,false] rfl rfl (any_of HT_.out (by kernel_rfl)) (fun _ _ _ h => h) (Or.inl ⟨by rfl, ?_⟩) ?_ ?_
                          rotate_left;·intro w';go_simp;with_reducible rfl
                          rotate_left;·simp only [Act.put, pa_, pz_, pu_, i64_w, i32_w];rfl
                          refine pure_ (i:=10) (N:=some 145) (v:=?_) (a':=?_) #[true,true,true,true,true,true,true,false,true,true,true,false,false,false,false,false] rfl rfl (any_of HT_.out (by kernel_rfl)) (fun _ _ _ h => h) (Or.inl ⟨by rfl, ?_⟩) ?_ ?_
                          rotate_left;·intro w';go_simp;with_reducible rfl
                          rotate_left;·simp only [Act.put, pa_, pz_, pu_, i64_w, i32_w];rfl
                          refine take_ (i:=7) (N:=some 142) (v:=?_) (a':=?_) #[true,true,true,true,true,true,true,true,true,true,true,false,false,false,false,false] rfl rfl (take_ofW HT_.out HW_.out (by kernel_rfl)) (fun _ _ _ h => h) (Or.inl ⟨by rfl, ?_⟩) hHeld ?_ ?_
                          rotate_left;·rintro w' ⟨s0, s1⟩;go_simp;with_reducible rfl
                          rotate_left;·simp only [Act.put, pa_, pz_, pu_, i64_w, i32_w];rfl
                          refine take_ (i:=11) (N:=some 146) (v:=?_) (a':=?_) #[true,true,true,true,true,true,true,true,true,true,true,true,false,false,false,false] rfl rfl (take_ofW HT_.out HW_.out (by kernel_rfl)) (fun _ _ _ h => h) (Or.inl ⟨by rfl, ?_⟩) hHeld ?_ ?_
                          rotate_left;·rintro w' ⟨s0, s1⟩;go_simp;with_reducible rfl
                          rotate_left;·simp only [Act.put, pa_, pz_, pu_, i64_w, i32_w];rfl
                          refine pure_ (i:=12) (N:=some 147) (v:=?_) (a':=?_) #[true,true,true,true,true,true,true,true,true,true,true,true,true,false,false,false] rfl rfl (any_of HT_.out (by kernel_rfl)) (fun _ _ _ h => h) (Or.inl ⟨by rfl, ?_⟩) ?_ ?_
                          rotate_left;·intro w';go_simp;with_reducible rfl
                          rotate_left;·simp only [Act.put, pa_, pz_, pu_, i64_w, i32_w];rfl
                          refine last_ (i:=13) (N:=none) #[true,true,true,true,true,true,true,true,true,true,true,true,true,true,false,false] rfl rfl (one_of HT_.out (by kernel_rfl)) (by decide) (fun K hK => ?_)
                          refine skip_ (w1 := ?_) (by rfl) rfl ?_ ?_
                          rotate_left
                          ·go_simp
                           rfl
                          refine hK.out _ _ ?_
                          clear hK K
                          refine pure_ (i:=14) (N:=some 148) (v:=?_) (a':=?_) #[true,true,true,true,true,true,true,true,true,true,true,true,true,true,true,false] rfl rfl (any_of HT_.out (by kernel_rfl)) (fun _ _ _ h => h) (Or.inl ⟨by rfl, ?_⟩) ?_ ?_
                          rotate_left;·intro w';go_simp;with_reducible rfl
                          rotate_left;·simp only [Act.put, pa_, pz_, pu_, i64_w, i32_w];rfl
                          refine last_ (i:=15) (N:=none) #[true,true,true,true,true,true,true,true,true,true,true,true,true,true,true,true] rfl rfl (one_of HT_.out (by kernel_rfl)) (by decide) (fun K hK => ?_)
                          refine skip_ (w1 := ?_) (by rfl) rfl ?_ ?_
                          rotate_left
                          ·go_simp
                           rfl
                          refine hK.out _ _ ?_
                          clear hK K
                          refine done_ (done_of HT_.out (by kernel_rfl)) ?_
                          try go_wp2
                          (try simp only [← hl0_3])
                          go_roundg k5
                          case measure => have := HJ10.out; have := HJ25.out; have := HK3.out; have := HJ55.out; have := HK5.out; omega
                          case rel => exact ⟨(y243), (wrap64 (x10_55 + 1)), (wrap64 (x11_5 - 1)), (by first | rfl | (simp; done) | (simp [*]; done)), (by first | rfl | (simp; done) | (simp [*]; done)), H', ⟨by have := HJ10.out; have := HJ25.out; have := HK3.out; have := HJ55.out; have := HK5.out; omega⟩, ⟨by (try simp only [hl0_10]); (try simp only [hl0_3]); (with_reducible repeat (first | apply Kd.R_alloc | apply Kd.R_drewN | apply Kd.R_drew)); exact HQ110.out⟩, ⟨by repeat (first | (with_reducible first | exact HK.out | apply Kept.alloc | apply Kept.drewN | apply Kept.drew | refine Kept.setCell ?_ HMgo9.out _ | refine Kept.setCell ?_ HMgo9.out _) | exact HK.out)⟩, ⟨by repeat (first | (with_reducible first | exact HB.out | apply below_alloc | apply pw_below_drewN | apply below_drew1 | refine below_set ?_ GB9.out | refine below_set ?_ GB9.out) | exact HB.out)⟩⟩
                         ·rw [if_neg c104] at H
                          exact absurd H (by simp)
                        ·rw [if_neg c103] at H
                         exact absurd H (by simp)
                       ·rw [if_neg c102] at H
                        exact absurd H (by simp)
                      ·rw [if_neg c101] at H
                       exact absurd H (by simp)
             ·rw [if_neg c50] at H
              exact absurd H (by simp)
            ·rw [if_neg c49] at H
             exact absurd H (by simp)
           ·rw [if_neg c48] at H
            exact absurd H (by simp)
          ·rw [if_neg c47] at H
           exact absurd H (by simp)
    ·rw [if_neg c8] at H
     exact absurd H (by simp)
   ·rw [if_neg c7] at H
    exact absurd H (by simp)
  ·rw [if_neg c6] at H
   exact absurd H (by simp)
 ·rw [if_neg c5] at H
  exact absurd H (by simp)

end Go.Proofs.YtnicjjnghclgpaaDoor.QFnExactCountWinningTurns
