/- FnExactCellsOf: the printed pure statement holds: at every input the law's function answers true; no condition but the bounds of its kinds. -/
import Derived.Test.YtnogfpfeimmhjaaPFnExactCellsOfx1
import Derived.Test.YtnogfpfeimmhjaaLib
set_option linter.unusedVariables false
set_option linter.unusedSimpArgs false
namespace Go.Proofs.Ytnogfpfeimmhjaa.Pure
open Go.RowKit Go.Proofs.Ytnogfpfeimmhjaa.PFnExactCellsOf Go.Proofs.YtnogfpfeimmhjaaW.PrintWords Go.Proofs.YtnogfpfeimmhjaaW.PrintLast Go.Proofs.Ytnogfpfeimmhjaa.Lib

def cellB (A D : Nat) (j : Nat) : Bool := A.testBit (j % 8) && D.testBit (j / 8)
/-- The cells of a turn. -/
def cellsN (A D : Nat) : Nat := (List.range 64).foldl (fun o j => if cellB A D j then o ||| 2 ^ j else o) 0
theorem two_pow_le63 {j : Nat} (h : j ≤ 63) : 2 ^ j ≤ 9223372036854775808 := Nat.pow_le_pow_right (n := 2) (by omega) h
theorem spec_cells_ev (A D : Nat) (hA : A ≤ 255) (hD : D ≤ 255) : ∀ (d n o : Nat), n + d = 64 → o < 2 ^ 64 → Ev (fun k => spec_l04Cells.l0 k (o : Int) (n : Int) (A : Int) (D : Int)) (((List.range' n d).foldl (fun o j => if cellB A D j then o ||| 2 ^ j else o) o : Nat) : Int) := by
  intro d
  induction d with
  | zero =>
    intro n o h ho
    refine Ev_round ?_
    simp only [spec_l04Cells.l0]
    exact Ev_neg (by omega) (Ev.now _)
  | succ d ih =>
    intro n o h ho
    refine Ev_round ?_
    simp only [spec_l04Cells.l0]
    have e1 : IntKind.u64.wrap (Int.tmod (n : Int) 8) = ((n % 8 : Nat) : Int) := by
      have : Int.tmod (n : Int) 8 = ((n % 8 : Nat) : Int) := by rw [Int.tmod_eq_emod_of_nonneg (by omega)]; omega
      rw [this, wu64 (by omega) (by omega)]
    have e2 : IntKind.u64.wrap (wrap64 (Int.tdiv (n : Int) 8)) = ((n / 8 : Nat) : Int) := by
      have : Int.tdiv (n : Int) 8 = ((n / 8 : Nat) : Int) := by rw [Int.tdiv_eq_ediv_of_nonneg (by omega)]; omega
      rw [this, w64 (by omega) (by omega), wu64 (by omega) (by omega)]
    have e3 : IntKind.u64.wrap (n : Int) = (n : Int) := wu64 (by omega) (by omega)
    have e4 : wrap64 ((n : Int) + 1) = ((n + 1 : Nat) : Int) := by rw [w64 (by omega) (by omega)]; omega
    rw [e1, e2, e3, e4, bit_u32 A (n % 8) (by omega) (by omega), bit_u32 D (n / 8) (by omega) (by omega)]
    rw [List.range'_succ, List.foldl_cons]
    have hp := two_pow_le63 (show n ≤ 63 by omega)
    refine Ev_pos (by omega) (Ev_pos (by omega) ?_)
    by_cases ba : A.testBit (n % 8) = true
    · refine Ev_pos (by simp [ba]) (Ev_pos (by omega) ?_)
      by_cases bd : D.testBit (n / 8) = true
      · refine Ev_pos (by simp [bd]) (Ev_pos (by omega) ?_)
        have e5 : shl .u64 1 (n : Int) = ((2 ^ n : Nat) : Int) := by
          have := shl_u64 1 n (by omega) (by omega)
          simpa using this
        have e6 : Go.bits .or .u64 (o : Int) ((2 ^ n : Nat) : Int) = ((o ||| 2 ^ n : Nat) : Int) := u64_or_nat o (2 ^ n) (by omega) (by omega)
        rw [e5, e6]
        have hb : cellB A D n = true := by simp [cellB, ba, bd]
        rw [if_pos hb]
        exact ih (n + 1) _ (by omega) (Nat.or_lt_two_pow ho (Nat.pow_lt_pow_right (by omega) (by omega)))
      · refine Ev_neg (by simp [bd]) ?_
        have hb : ¬ cellB A D n = true := by simp [cellB, bd]
        rw [if_neg hb]
        exact ih (n + 1) _ (by omega) ho
    · refine Ev_neg (by simp [ba]) ?_
      have hb : ¬ cellB A D n = true := by simp [cellB, ba]
      rw [if_neg hb]
      exact ih (n + 1) _ (by omega) ho
theorem spec_cells_f (A D : Nat) (hA : A ≤ 255) (hD : D ≤ 255) : Ev (fun k => spec_l04Cells.f k (A : Int) (D : Int)) ((cellsN A D : Nat) : Int) := by
  have := spec_cells_ev A D hA hD 64 0 0 (by omega) (by omega)
  rw [← List.range_eq_range'] at this
  exact this
/-- Bit by bit. -/
theorem cells_fold_bit (A D : Nat) : ∀ (d n o j : Nat), ((List.range' n d).foldl (fun o j => if cellB A D j then o ||| 2 ^ j else o) o).testBit j = (o.testBit j || (decide (n ≤ j ∧ j < n + d) && cellB A D j)) := by
  intro d
  induction d with
  | zero =>
    intro n o j
    have : decide (n ≤ j ∧ j < n + 0) = false := by apply decide_eq_false; omega
    rw [this]
    simp
  | succ d ih =>
    intro n o j
    rw [List.range'_succ, List.foldl_cons, ih]
    by_cases hb : cellB A D n = true
    · rw [if_pos hb, Nat.testBit_or, Nat.testBit_two_pow]
      by_cases e : n = j
      · subst e; simp [hb]
      · have : (decide (n + 1 ≤ j ∧ j < n + 1 + d)) = decide (n ≤ j ∧ j < n + (d + 1)) := by apply decide_eq_decide.2; omega
        simp [e, this]
    · rw [if_neg hb]
      by_cases e : n = j
      · subst e; simp [hb]
      · have : (decide (n + 1 ≤ j ∧ j < n + 1 + d)) = decide (n ≤ j ∧ j < n + (d + 1)) := by apply decide_eq_decide.2; omega
        rw [this]
theorem cellsN_bit (A D j : Nat) : (cellsN A D).testBit j = (decide (j < 64) && cellB A D j) := by
  unfold cellsN
  rw [List.range_eq_range', cells_fold_bit]
  simp

theorem impl_cells_ev (A D : Nat) (hA : A ≤ 255) (hD : D ≤ 255) : ∀ (d n o : Nat), n + d = 8 → o < 2 ^ 64 → (∀ j, o.testBit j = (decide (j / 8 < n) && cellB A D j)) → Ev (fun k => impl_Turn_cells.l0 k (o : Int) (n : Int) (A : Int) (D : Int)) ((cellsN A D : Nat) : Int) := by
  intro d
  induction d with
  | zero =>
    intro n o h ho hbit
    refine Ev_round ?_
    simp only [impl_Turn_cells.l0]
    refine Ev_neg (by omega) (Ev_as (Ev.now _) ?_)
    congr 1
    apply Nat.eq_of_testBit_eq
    intro j
    rw [hbit, cellsN_bit]
    congr 1
    apply decide_eq_decide.2
    omega
  | succ d ih =>
    intro n o h ho hbit
    refine Ev_round ?_
    simp only [impl_Turn_cells.l0]
    have e4 : wrap64 ((n : Int) + 1) = ((n + 1 : Nat) : Int) := by rw [w64 (by omega) (by omega)]; omega
    have e5 : wrap64 (8 * (n : Int)) = ((8 * n : Nat) : Int) := by rw [w64 (by omega) (by omega)]; omega
    have e6 : IntKind.u64.wrap (A : Int) = (A : Int) := wu64 (by omega) (by omega)
    have hp : A * 2 ^ (8 * n) < 2 ^ 64 := by
      have : 2 ^ (8 * n) ≤ 2 ^ 56 := Nat.pow_le_pow_right (by omega) (by omega)
      calc A * 2 ^ (8 * n) ≤ 255 * 2 ^ 56 := Nat.mul_le_mul hA this
        _ < 2 ^ 64 := by omega
    rw [e4, e5, e6, bit_u32 D n (by omega) (by omega), shl_u64 A (8 * n) (by omega) (by omega), u64_or_nat o (A * 2 ^ (8 * n)) (by omega) (by omega)]
    refine Ev_pos (by omega) (Ev_pos (by omega) ?_)
    by_cases bd : D.testBit n = true
    · refine Ev_pos (by simp [bd]) (Ev_pos (by omega) (ih (n + 1) _ (by omega) (Nat.or_lt_two_pow ho hp) (fun j => ?_)))
      rw [Nat.testBit_or, hbit, Nat.testBit_mul_two_pow]
      by_cases c : j / 8 = n
      · have c1 : decide (8 * n ≤ j) = true := by simp; omega
        have c2 : j - 8 * n = j % 8 := by omega
        have c3 : decide (j / 8 < n) = false := by simp; omega
        have c4 : decide (j / 8 < n + 1) = true := by simp; omega
        rw [c1, c2, c3, c4]
        simp [cellB, c, bd]
      · have c4 : decide (j / 8 < n + 1) = decide (j / 8 < n) := by apply decide_eq_decide.2; omega
        rw [c4]
        by_cases c5 : 8 * n ≤ j
        · have : A.testBit (j - 8 * n) = false := Nat.testBit_lt_two_pow (Nat.lt_of_lt_of_le (show A < 2 ^ 8 by omega) (Nat.pow_le_pow_right (by omega) (by omega)))
          simp [this]
        · simp [c5]
    · refine Ev_neg (by simp [bd]) (ih (n + 1) _ (by omega) ho (fun j => ?_))
      rw [hbit]
      by_cases c : j / 8 = n
      · simp [cellB, c, bd]
      · have c4 : decide (j / 8 < n + 1) = decide (j / 8 < n) := by apply decide_eq_decide.2; omega
        rw [c4]
theorem impl_cells_f (A D : Nat) (hA : A ≤ 255) (hD : D ≤ 255) : Ev (fun k => impl_Turn_cells.f k (A : Int) (D : Int)) ((cellsN A D : Nat) : Int) :=
  impl_cells_ev A D hA hD 8 0 0 (by omega) (by omega) (by simp)

theorem FnExactCellsOf (a d : Int) (wa : (Lit.int .u32 a).wf = true) (wd : (Lit.int .u32 d).wf = true) : ∃ k, laws_FnExactCellsOf.f k a d = some true := by
  obtain ⟨a0, a1⟩ := wf_u32 wa
  obtain ⟨d0, d1⟩ := wf_u32 wd
  obtain ⟨A, rfl⟩ := Int.eq_ofNat_of_zero_le a0
  obtain ⟨D, rfl⟩ := Int.eq_ofNat_of_zero_le d0
  refine Ev.rounds (r := true) ?_
  unfold laws_FnExactCellsOf.f laws_toTurn.f spec_CellsOf.f impl_CellsOf.f
  simp only [Option.bind_some]
  by_cases cA : A ≤ 255
  · by_cases cD : D ≤ 255
    · refine Ev.bind (a := (((cellsN A D : Nat) : Int), 0)) (Ev_neg (by omega) (Ev_neg (by omega) (Ev.bind (spec_cells_f A D cA cD) (Ev.now _)))) ?_
      refine Ev.bind (a := (((cellsN A D : Nat) : Int), 0)) (Ev_pos (by omega) (Ev_pos (by omega) (Ev.bind (impl_cells_f A D cA cD) (Ev.now _)))) ?_
      exact Ev_pos rfl (Ev_pos rfl (Ev.now _))
    · refine Ev.bind (a := (0, 2)) (Ev_neg (by omega) (Ev_pos (by omega) (Ev.now _))) ?_
      refine Ev.bind (a := (0, 2)) (Ev_pos (by omega) (Ev_neg (by omega) (Ev.now _))) ?_
      exact Ev_pos rfl (Ev_pos rfl (Ev.now _))
  · refine Ev.bind (a := (0, 2)) (Ev_pos (by omega) (Ev.now _)) ?_
    refine Ev.bind (a := (0, 2)) (Ev_neg (by omega) (Ev.now _)) ?_
    exact Ev_pos rfl (Ev_pos rfl (Ev.now _))

end Go.Proofs.Ytnogfpfeimmhjaa.Pure
