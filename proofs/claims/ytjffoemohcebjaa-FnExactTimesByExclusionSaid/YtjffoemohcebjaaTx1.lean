/- Products by exclusion: the table that both programs fill, in plain lists. No program is in sight. -/
import Derived.Test.YtjffoemohcebjaaLib3
set_option linter.unusedVariables false
set_option linter.unusedSimpArgs false
namespace Go.Proofs.Ytjffoemohcebjaa.Tx
open Go.RowKit Go.Proofs.YtjffoemohcebjaaW.PrintWords Go.Proofs.YtjffoemohcebjaaW.PrintLast Go.Proofs.Ytjffoemohcebjaa.Lib

/-- What is excluded at row i and column k by row x and column y. -/
def ex3 (t : List Int) (i k x y : Nat) : Int := X (X (t.getD (x * 32 + k) 0) (t.getD (i * 32 + y) 0)) (t.getD (x * 32 + y) 0)
def exRow (t : List Int) (i k x n : Nat) : List Int := (List.range n).map (ex3 t i k x)
/-- What rows below x exclude, and the first n columns of row x. -/
def exList (t : List Int) (i k : Nat) : Nat → Nat → List Int
  | 0, n => exRow t i k 0 n
  | x + 1, n => exList t i k x k ++ exRow t i k (x + 1) n
theorem exRow_next (t : List Int) (i k x n : Nat) : exRow t i k x (n + 1) = exRow t i k x n ++ [ex3 t i k x n] := by simp [exRow, List.range_succ]
theorem exList_next (t : List Int) (i k x n : Nat) : exList t i k x (n + 1) = exList t i k x n ++ [ex3 t i k x n] := by
  cases x with
  | zero => exact exRow_next t i k 0 n
  | succ x => simp only [exList, exRow_next, List.append_assoc]
theorem exList_row (t : List Int) (i k x : Nat) : exList t i k (x + 1) 0 = exList t i k x k := by simp [exList, exRow]
theorem exList_len (t : List Int) (i k : Nat) : ∀ (x n : Nat), (exList t i k x n).length = x * k + n
  | 0, n => by simp [exList, exRow]
  | x + 1, n => by simp only [exList, List.length_append, exList_len t i k x k, exRow, List.length_map, List.length_range]; rw [Nat.succ_mul]
theorem exList_mem (t : List Int) (i k : Nat) : ∀ (x n : Nat) (v : Int), v ∈ exList t i k x n → ∃ p q, v = ex3 t i k p q
  | 0, n, v, h => by
    simp only [exList, exRow, List.mem_map, List.mem_range] at h
    obtain ⟨q, _, rfl⟩ := h
    exact ⟨0, q, rfl⟩
  | x + 1, n, v, h => by
    simp only [exList, List.mem_append] at h
    rcases h with h | h
    · exact exList_mem t i k x k v h
    · simp only [exRow, List.mem_map, List.mem_range] at h
      obtain ⟨q, _, rfl⟩ := h
      exact ⟨x + 1, q, rfl⟩
/-- All that is excluded at row i and column k. -/
def exAll (t : List Int) (i k : Nat) : List Int := exList t i k i 0
theorem exAll_len (t : List Int) (i k : Nat) : (exAll t i k).length = i * k := exList_len t i k i 0
theorem mexAll_le (t : List Int) (i k : Nat) (hi : i < 32) (hk : k < 32) : mexN (exAll t i k) ≤ 961 := by
  have h := mexN_le (exAll t i k)
  rw [exAll_len] at h
  have : i * k ≤ 31 * 31 := Nat.mul_le_mul (by omega) (by omega)
  omega
def stepT (t : List Int) (i k : Nat) : List Int := t.set (i * 32 + k) ((mexN (exAll t i k) : Nat) : Int)
def rowT (t : List Int) (i : Nat) : Nat → List Int
  | 0 => t
  | k + 1 => stepT (rowT t i k) i k
/-- The table behind its first rows, with so many columns. -/
def tabT (c : Nat) : Nat → List Int
  | 0 => List.replicate 1024 0
  | i + 1 => rowT (tabT c i) i c
/-- A table that stands before row i and column k. -/
structure GoodT (t : List Int) (i k : Nat) : Prop where
  len : t.length = 1024
  rng : ∀ j, 0 ≤ t.getD j 0 ∧ t.getD j 0 ≤ 961
  zer : ∀ p q, q < 32 → (i < p ∨ (p = i ∧ k ≤ q)) → t.getD (p * 32 + q) 0 = 0
theorem good_start : GoodT (List.replicate 1024 0) 0 0 := by
  have h : ∀ j, (List.replicate 1024 (0 : Int)).getD j 0 = 0 := fun j => by
    rw [List.getD_eq_getElem?_getD, List.getElem?_replicate]
    split <;> rfl
  exact ⟨List.length_replicate, fun j => by rw [h]; omega, fun p q _ _ => h _⟩
theorem getD_set (t : List Int) (j m : Nat) (v : Int) (hj : j < t.length) : (t.set j v).getD m 0 = if j = m then v else t.getD m 0 := by
  rw [List.getD_eq_getElem?_getD, List.getElem?_set, List.getD_eq_getElem?_getD]
  by_cases h : j = m
  · rw [if_pos h, if_pos h, if_pos hj]; rfl
  · rw [if_neg h, if_neg h]
theorem good_set {t : List Int} {i k : Nat} (h : GoodT t i k) (hi : i < 32) (hk : k < 32) (v : Int) (hv : 0 ≤ v ∧ v ≤ 961) : GoodT (t.set (i * 32 + k) v) i (k + 1) := by
  have hj : i * 32 + k < t.length := by rw [h.len]; omega
  refine ⟨by rw [List.length_set]; exact h.len, fun j => ?_, fun p q hq hpq => ?_⟩
  · rw [getD_set _ _ _ _ hj]
    split
    · exact hv
    · exact h.rng j
  · rw [getD_set _ _ _ _ hj, if_neg (by omega)]
    exact h.zer p q hq (by omega)
theorem good_step {t : List Int} {i k : Nat} (h : GoodT t i k) (hi : i < 32) (hk : k < 32) : GoodT (stepT t i k) i (k + 1) :=
  good_set h hi hk _ (by have := mexAll_le t i k hi hk; omega)
theorem good_row {t : List Int} {i k : Nat} (h : GoodT t i k) : GoodT t (i + 1) 0 := ⟨h.len, h.rng, fun p q hq hpq => h.zer p q hq (by omega)⟩
theorem good_rowT {t : List Int} {i : Nat} (h : GoodT t i 0) (hi : i < 32) : ∀ k, k ≤ 32 → GoodT (rowT t i k) i k
  | 0, _ => h
  | k + 1, hk => good_step (good_rowT h hi k (by omega)) hi (by omega)
theorem good_tabT (c : Nat) (hc : c ≤ 32) : ∀ i, i ≤ 32 → GoodT (tabT c i) i 0
  | 0, _ => good_start
  | i + 1, hi => good_row (good_rowT (good_tabT c hc i (by omega)) (by omega) c hc)
theorem ex3_in {t : List Int} {i k : Nat} (h : GoodT t i k) (p q r s : Nat) : 0 ≤ ex3 t p q r s ∧ ex3 t p q r s < 1024 := by
  have h1 := h.rng (r * 32 + q)
  have h2 := h.rng (p * 32 + s)
  have h3 := h.rng (r * 32 + s)
  unfold ex3
  generalize t.getD (r * 32 + q) 0 = u at h1
  generalize t.getD (p * 32 + s) 0 = v at h2
  generalize t.getD (r * 32 + s) 0 = z at h3
  have e1 : X u v = ((u.toNat ^^^ v.toNat : Nat) : Int) := X_nat (by omega) (by omega)
  have b1 := Nat.xor_lt_two_pow (x := u.toNat) (y := v.toNat) (n := 10) (by omega) (by omega)
  have e2 : X (X u v) z = (((X u v).toNat ^^^ z.toNat : Nat) : Int) := X_nat (by rw [e1]; omega) (by omega)
  have b2 := Nat.xor_lt_two_pow (x := (X u v).toNat) (y := z.toNat) (n := 10) (by rw [e1]; omega) (by omega)
  rw [e2]
  omega
end Go.Proofs.Ytjffoemohcebjaa.Tx
