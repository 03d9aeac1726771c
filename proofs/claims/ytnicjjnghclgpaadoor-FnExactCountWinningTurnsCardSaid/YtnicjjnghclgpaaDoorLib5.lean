/- Masks: how long a mask is, its lowest bit, and when its bits are one run. No program is in sight. -/
import Derived.Test.YtnicjjnghclgpaaDoorLib2
set_option linter.unusedVariables false
set_option linter.unusedSimpArgs false
namespace Go.Proofs.YtnicjjnghclgpaaDoor.Lib
open Go.RowKit Go.Proofs.YtnicjjnghclgpaaDoorW.PrintWords Go.Proofs.YtnicjjnghclgpaaDoorW.PrintLast

theorem and2 (y m b c : Nat) (hb : b < 2) (hc : c < 2) : (2 * y + b) &&& (2 * m + c) = 2 * (y &&& m) + (b &&& c) := by
  have h1 := Nat.and_div_two_pow (a := 2 * y + b) (b := 2 * m + c) (n := 1)
  have h2 := Nat.and_mod_two_pow (a := 2 * y + b) (b := 2 * m + c) (n := 1)
  have e : (2 : Nat) ^ 1 = 2 := rfl
  rw [e] at h1 h2
  rw [show (2 * y + b) / 2 = y by omega, show (2 * m + c) / 2 = m by omega] at h1
  rw [show (2 * y + b) % 2 = b by omega, show (2 * m + c) % 2 = c by omega] at h2
  omega
theorem compl_and (w q : Nat) (h : q < 2 ^ w) : q &&& (2 ^ w - (q + 1)) = 0 := by
  apply Nat.eq_of_testBit_eq
  intro i
  rw [Nat.testBit_and, Nat.testBit_two_pow_sub_succ h, Nat.zero_testBit]
  cases q.testBit i <;> simp
/-- A number and its opposite have the lowest bit alone in common. -/
theorem low_and : ∀ (t w q : Nat), q < 2 ^ w → (2 ^ t * (2 * q + 1)) &&& (2 ^ (t + w + 1) - 2 ^ t * (2 * q + 1)) = 2 ^ t := by
  intro t
  induction t with
  | zero =>
    intro w q h
    have e : 2 ^ (0 + w + 1) - 2 ^ 0 * (2 * q + 1) = 2 * (2 ^ w - (q + 1)) + 1 := by
      rw [show 0 + w + 1 = w + 1 by omega, Nat.pow_succ, Nat.pow_zero]
      omega
    rw [e, show 2 ^ 0 * (2 * q + 1) = 2 * q + 1 by omega, and2 _ _ _ _ (by omega) (by omega), compl_and w q h]
    rfl
  | succ t ih =>
    intro w q h
    have := ih w q h
    have e1 : 2 ^ (t + 1) * (2 * q + 1) = 2 * (2 ^ t * (2 * q + 1)) + 0 := by rw [Nat.pow_succ, Nat.mul_comm (2 ^ t) 2, Nat.mul_assoc]; rfl
    have e2 : 2 ^ (t + 1 + w + 1) = 2 * 2 ^ (t + w + 1) := by rw [show t + 1 + w + 1 = (t + w + 1) + 1 by omega, Nat.pow_succ, Nat.mul_comm]
    rw [e2, e1]
    generalize 2 ^ t * (2 * q + 1) = X at *
    generalize 2 ^ (t + w + 1) = Y at *
    rw [show 2 * Y - (2 * X + 0) = 2 * (Y - X) + 0 by omega, and2 _ _ _ _ (by omega) (by omega), this, Nat.pow_succ]
    simp
    omega
theorem split_low : ∀ n : Nat, 0 < n → ∃ t q, n = 2 ^ t * (2 * q + 1) := by
  intro n
  induction n using Nat.strongRecOn with
  | ind n ih =>
    intro h
    rcases Nat.mod_two_eq_zero_or_one n with e | e
    · obtain ⟨t, q, hq⟩ := ih (n / 2) (by omega) (by omega)
      refine ⟨t + 1, q, ?_⟩
      rw [Nat.pow_succ, Nat.mul_comm (2 ^ t) 2, Nat.mul_assoc, ← hq]
      omega
    · exact ⟨0, n / 2, by omega⟩
theorem pop_shift (t w m : Nat) : pop (t + w) (2 ^ t * m) = pop w m := by
  have hz : ∀ t, pop t (2 ^ t * m) = 0 := by
    intro t
    induction t with
    | zero => rfl
    | succ t ih =>
      simp only [pop]
      rw [Nat.pow_succ, Nat.mul_comm (2 ^ t) 2, Nat.mul_assoc, Nat.mul_div_cancel_left _ (by omega), ih]
      omega
  rw [pop_add, hz, Nat.mul_div_cancel_left _ (Nat.two_pow_pos t)]
  omega
theorem run_iff : ∀ (L m : Nat), 2 ^ L ≤ m → m < 2 ^ (L + 1) → (m &&& (m + 1) = 0 ↔ pop (L + 1) m = L + 1) := by
  intro L
  induction L with
  | zero =>
    intro m h1 h2
    obtain rfl : m = 1 := by omega
    decide
  | succ L ih =>
    intro m h1 h2
    have i := ih (m / 2) (by rw [Nat.pow_succ] at h1; omega) (by rw [Nat.pow_succ] at h2; omega)
    have hp : pop (L + 1 + 1) m = m % 2 + pop (L + 1) (m / 2) := rfl
    have hl := pop_le (L + 1) (m / 2)
    have h3 : 0 < 2 ^ L := Nat.two_pow_pos L
    rcases Nat.mod_two_eq_zero_or_one m with e | e
    · have e1 : m = 2 * (m / 2) + 0 := by omega
      have ea : m &&& (m + 1) = 2 * (m / 2 &&& m / 2) + (0 &&& 1) := by
        conv => lhs; rw [show m + 1 = 2 * (m / 2) + 1 by omega]; arg 1; rw [e1]
        rw [and2 _ _ _ _ (by omega) (by omega)]
      rw [ea, hp, Nat.and_self]
      rw [Nat.pow_succ] at h1
      constructor
      · intro h
        simp at h
        omega
      · omega
    · have e1 : m = 2 * (m / 2) + 1 := by omega
      have ea : m &&& (m + 1) = 2 * (m / 2 &&& (m / 2 + 1)) + (1 &&& 0) := by
        conv => lhs; rw [show m + 1 = 2 * (m / 2 + 1) + 0 by omega]; arg 1; rw [e1]
        rw [and2 _ _ _ _ (by omega) (by omega)]
      rw [ea, hp]
      simp only [Nat.and_zero, Nat.add_zero]
      constructor
      · intro h
        have := i.1 (by omega)
        omega
      · intro h
        have := i.2 (by omega)
        omega
theorem log2_is {n L : Nat} (h1 : 2 ^ L ≤ n) (h2 : n < 2 ^ (L + 1)) : n.log2 = L := (Nat.log2_eq_iff (by have := Nat.two_pow_pos L; omega)).2 ⟨h1, h2⟩
theorem log2_le {n : Nat} (h : n ≠ 0) : 2 ^ n.log2 ≤ n ∧ n < 2 ^ (n.log2 + 1) := (Nat.log2_eq_iff h).1 rfl
theorem log2_up (n k : Nat) (h : n / 2 ^ k ≠ 0) : n.log2 = k + (n / 2 ^ k).log2 := by
  obtain ⟨h1, h2⟩ := log2_le h
  have hk := Nat.two_pow_pos k
  rw [Nat.le_div_iff_mul_le hk] at h1
  rw [Nat.div_lt_iff_lt_mul hk] at h2
  refine log2_is ?_ ?_
  · rw [Nat.pow_add, Nat.mul_comm]; exact h1
  · rw [Nat.add_assoc, Nat.pow_add, Nat.mul_comm]; exact h2
/-- The bits of a mask are one run: told by the count of its bits, and told by its odd part. -/
theorem run_of (n t q : Nat) (hn : n = 2 ^ t * (2 * q + 1)) (h32 : n < 2 ^ 32) : ((2 * q + 1) &&& (2 * q + 1 + 1) = 0 ↔ pop 32 n = n.log2 + 1 - t) ∧ t ≤ n.log2 ∧ t < 32 := by
  have hm : 2 * q + 1 ≠ 0 := by omega
  obtain ⟨h1, h2⟩ := log2_le hm
  generalize hL : (2 * q + 1).log2 = L at *
  generalize hM : 2 * q + 1 = m at *
  have ht := Nat.two_pow_pos t
  have a1 : 2 ^ (t + L) ≤ n := by rw [hn, Nat.pow_add]; exact Nat.mul_le_mul_left _ h1
  have a2 : n < 2 ^ (t + L + 1) := by rw [hn, Nat.add_assoc, Nat.pow_add]; exact Nat.mul_lt_mul_of_pos_left h2 ht
  have hl : n.log2 = t + L := log2_is a1 a2
  have hlt : t + L < 32 := (Nat.pow_lt_pow_iff_right (a := 2) (by omega)).1 (Nat.lt_of_le_of_lt a1 h32)
  have hp : pop 32 n = pop (L + 1) m := by
    rw [hn, show 32 = t + (L + 1 + (31 - t - L)) by omega, pop_shift, pop_small _ _ h2]
  rw [hl, hp, run_iff L m h1 h2]
  refine ⟨?_, by omega, by omega⟩
  rw [show t + L + 1 - t = L + 1 by omega]
theorem bit_and (A L : Nat) : (A &&& 2 ^ L = 0) ↔ A.testBit L = false := by
  constructor
  · intro h
    have := congrArg (fun x => Nat.testBit x L) h
    simpa [Nat.testBit_and, Nat.testBit_two_pow] using this
  · intro h
    apply Nat.eq_of_testBit_eq
    intro j
    rw [Nat.testBit_and, Nat.testBit_two_pow, Nat.zero_testBit]
    by_cases e : L = j
    · subst e; simp [h]
    · simp [e]
end Go.Proofs.YtnicjjnghclgpaaDoor.Lib
