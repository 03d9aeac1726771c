/- FnExactTurnBoard: the printed pure statement holds: at every input the law's function answers true; no condition but the bounds of its kinds. -/
import Derived.Test.YteinllalhiflcaaDoorQFnExactTurnBoardx5
import Derived.Test.YteinllalhiflcaaDoorLib
import Derived.Test.YteinllalhiflcaaDoorLib2
import Derived.Test.YteinllalhiflcaaDoorLib5
set_option linter.unusedVariables false
set_option linter.unusedSimpArgs false
namespace Go.Proofs.YteinllalhiflcaaDoor.Pure
open Go.RowKit Go.Proofs.YteinllalhiflcaaDoor.QFnExactTurnBoard Go.Proofs.YteinllalhiflcaaDoorW.PrintWords Go.Proofs.YteinllalhiflcaaDoorW.PrintLast Go.Proofs.YteinllalhiflcaaDoor.Lib

theorem spec_bits_ev : ∀ (d x : Nat) (c : Int), x < 2 ^ d → d ≤ 64 → 0 ≤ c → c + d ≤ 200 → Ev (fun k => spec_l04Bits.l0 k (x : Int) c) (c + ((pop d x : Nat) : Int)) := by
  intro d
  induction d with
  | zero =>
    intro x c h _ _ _
    refine Ev_round ?_
    simp only [spec_l04Bits.l0]
    have : x = 0 := by simpa using h
    exact Ev_pos (by omega) (Ev_as (Ev.now _) (by simp [pop]))
  | succ d ih =>
    intro x c h hd hc hc2
    refine Ev_round ?_
    simp only [spec_l04Bits.l0]
    by_cases hx : x = 0
    · subst hx
      exact Ev_pos rfl (Ev_as (Ev.now _) (by simp [pop_zero]))
    · have hb : x < 2 ^ 64 := Nat.lt_of_lt_of_le h (Nat.pow_le_pow_right (by omega) hd)
      refine Ev_neg (by omega) ?_
      rw [and1_u64 (by omega) (by omega), w64 (x := (x : Int) % 2) (by omega) (by omega), w64 (by omega) (by omega), show ((x : Int) / 2) = ((x / 2 : Nat) : Int) by omega]
      refine Ev_as (ih (x / 2) (c + (x : Int) % 2) (by rw [Nat.pow_succ] at h; omega) (by omega) (by omega) (by omega)) ?_
      simp only [pop]
      omega
theorem spec_bits_f {a : Int} (h0 : 0 ≤ a) (h1 : a ≤ 18446744073709551615) : Ev (fun k => spec_l04Bits.f k a) ((pop 64 a.toNat : Nat) : Int) := by
  obtain ⟨x, rfl⟩ := Int.eq_ofNat_of_zero_le h0
  exact Ev_as (spec_bits_ev 64 x 0 (by omega) (by omega) (by omega) (by omega)) (by simp)

theorem strip_ev : ∀ (t q : Nat), 2 ^ t * (2 * q + 1) < 4294967295 → Ev (fun k => spec_l04May.l0 k ((2 ^ t * (2 * q + 1) : Nat) : Int)) (decide ((2 * q + 1) &&& (2 * q + 1 + 1) = 0)) := by
  intro t
  induction t with
  | zero =>
    intro q h
    refine Ev_round ?_
    simp only [spec_l04May.l0]
    rw [show 2 ^ 0 * (2 * q + 1) = 2 * q + 1 by omega] at h ⊢
    rw [and1_u32 (by omega) (by omega)]
    refine Ev_neg (by omega) (Ev_as (Ev.now _) ?_)
    rw [show (((2 * q + 1 : Nat) : Int) + 1) % 4294967296 = ((2 * q + 1 + 1 : Nat) : Int) by omega, u32_and_nat _ _ (by omega) (by omega)]
    by_cases c : (2 * q + 1) &&& (2 * q + 1 + 1) = 0
    · rw [c]; rfl
    · simp [c]
  | succ t ih =>
    intro q h
    refine Ev_round ?_
    simp only [spec_l04May.l0]
    have e : 2 ^ (t + 1) * (2 * q + 1) = 2 * (2 ^ t * (2 * q + 1)) := by rw [Nat.pow_succ, Nat.mul_comm (2 ^ t) 2, Nat.mul_assoc]
    have i := ih q (by omega)
    rw [e] at h ⊢
    generalize 2 ^ t * (2 * q + 1) = X at *
    rw [and1_u32 (by omega) (by omega)]
    refine Ev_pos (by omega) ?_
    rw [show ((2 * X : Nat) : Int) / 2 = (X : Int) by omega]
    exact i

theorem top_ev : ∀ (L x c : Nat), 2 ^ L ≤ x → x < 2 ^ (L + 1) → c * 2 ^ L < 4294967296 → x < 4294967296 → Ev (fun k => spec_l04Top.l0 k (x : Int) (c : Int)) ((c * 2 ^ L : Nat) : Int) := by
  intro L
  induction L with
  | zero =>
    intro x c h1 h2 h3 h4
    refine Ev_round ?_
    simp only [spec_l04Top.l0]
    exact Ev_neg (by omega) (Ev_as (Ev.now _) (by simp))
  | succ L ih =>
    intro x c h1 h2 h3 h4
    refine Ev_round ?_
    simp only [spec_l04Top.l0]
    have hp := Nat.two_pow_pos L
    rw [Nat.pow_succ] at h1 h2
    have e : c * 2 ^ (L + 1) = c * 2 * 2 ^ L := by rw [Nat.pow_succ, Nat.mul_comm (2 ^ L) 2, Nat.mul_assoc]
    rw [e] at h3 ⊢
    have hc : c * 2 ≤ c * 2 * 2 ^ L := Nat.le_mul_of_pos_right _ hp
    refine Ev_pos (by omega) ?_
    rw [show (x : Int) / 2 = ((x / 2 : Nat) : Int) by omega, show ((c : Int) * 2) % 4294967296 = ((c * 2 : Nat) : Int) by omega]
    exact ih (x / 2) (c * 2) (by omega) (by omega) h3 (by omega)
theorem top_f (x : Nat) (h : x < 4294967296) (h0 : x ≠ 0) : Ev (fun k => spec_l04Top.f k (x : Int)) ((2 ^ x.log2 : Nat) : Int) := by
  obtain ⟨h1, h2⟩ := log2_le h0
  exact Ev_as (top_ev x.log2 x 1 h1 h2 (by omega) h) (by simp)

def cellB (A D : Nat) (j : Nat) : Bool := A.testBit (j % 8) && D.testBit (j / 8)
/-- The cells of a turn. -/
def cellsN (A D : Nat) : Nat := (List.range 64).foldl (fun o j => if cellB A D j then o ||| 2 ^ j else o) 0
theorem two_pow_le63 {j : Nat} (h : j ≤ 63) : 2 ^ j ≤ 9223372036854775808 := Nat.pow_le_pow_right (n := 2) (by omega) h
theorem spec_cells_ev (A D : Nat) (hA : A ≤ 255) (hD : D ≤ 255) : ∀ (d n o : Nat), n + d = 64 → o < 2 ^ 64 → Ev (fun k => spec_l04Cells.l0 k (o : Int) (n : Int) (A : Int) (D : Int)) (((List.range' n d).foldl (fun o j => if cellB A D j then o ||| 2 ^ j else o) o : Nat) : Int) := by
  intro d
  induction d with
  | zero =>
    intro n o h ho
    refine Ev_round ?_
    simp only [spec_l04Cells.l0]
    exact Ev_neg (by omega) (Ev.now _)
  | succ d ih =>
    intro n o h ho
    refine Ev_round ?_
    simp only [spec_l04Cells.l0]
    have e1 : IntKind.u64.wrap (Int.tmod (n : Int) 8) = ((n % 8 : Nat) : Int) := by
      have : Int.tmod (n : Int) 8 = ((n % 8 : Nat) : Int) := by rw [Int.tmod_eq_emod_of_nonneg (by omega)]; omega
      rw [this, wu64 (by omega) (by omega)]
    have e2 : IntKind.u64.wrap (wrap64 (Int.tdiv (n : Int) 8)) = ((n / 8 : Nat) : Int) := by
      have : Int.tdiv (n : Int) 8 = ((n / 8 : Nat) : Int) := by rw [Int.tdiv_eq_ediv_of_nonneg (by omega)]; omega
      rw [this, w64 (by omega) (by omega), wu64 (by omega) (by omega)]
    have e3 : IntKind.u64.wrap (n : Int) = (n : Int) := wu64 (by omega) (by omega)
    have e4 : wrap64 ((n : Int) + 1) = ((n + 1 : Nat) : Int) := by rw [w64 (by omega) (by omega)]; omega
    rw [e1, e2, e3, e4, bit_u32 A (n % 8) (by omega) (by omega), bit_u32 D (n / 8) (by omega) (by omega)]
    rw [List.range'_succ, List.foldl_cons]
    have hp := two_pow_le63 (show n ≤ 63 by omega)
    refine Ev_pos (by omega) (Ev_pos (by omega) ?_)
    by_cases ba : A.testBit (n % 8) = true
    · refine Ev_pos (by simp [ba]) (Ev_pos (by omega) ?_)
      by_cases bd : D.testBit (n / 8) = true
      · refine Ev_pos (by simp [bd]) (Ev_pos (by omega) ?_)
        have e5 : shl .u64 1 (n : Int) = ((2 ^ n : Nat) : Int) := by
          have := shl_u64 1 n (by omega) (by omega)
          simpa using this
        have e6 : Go.bits .or .u64 (o : Int) ((2 ^ n : Nat) : Int) = ((o ||| 2 ^ n : Nat) : Int) := u64_or_nat o (2 ^ n) (by omega) (by omega)
        rw [e5, e6]
        have hb : cellB A D n = true := by simp [cellB, ba, bd]
        rw [if_pos hb]
        exact ih (n + 1) _ (by omega) (Nat.or_lt_two_pow ho (Nat.pow_lt_pow_right (by omega) (by omega)))
      · refine Ev_neg (by simp [bd]) ?_
        have hb : ¬ cellB A D n = true := by simp [cellB, bd]
        rw [if_neg hb]
        exact ih (n + 1) _ (by omega) ho
    · refine Ev_neg (by simp [ba]) ?_
      have hb : ¬ cellB A D n = true := by simp [cellB, ba]
      rw [if_neg hb]
      exact ih (n + 1) _ (by omega) ho
theorem spec_cells_f (A D : Nat) (hA : A ≤ 255) (hD : D ≤ 255) : Ev (fun k => spec_l04Cells.f k (A : Int) (D : Int)) ((cellsN A D : Nat) : Int) := by
  have := spec_cells_ev A D hA hD 64 0 0 (by omega) (by omega)
  rw [← List.range_eq_range'] at this
  exact this
/-- Bit by bit. -/
theorem cells_fold_bit (A D : Nat) : ∀ (d n o j : Nat), ((List.range' n d).foldl (fun o j => if cellB A D j then o ||| 2 ^ j else o) o).testBit j = (o.testBit j || (decide (n ≤ j ∧ j < n + d) && cellB A D j)) := by
  intro d
  induction d with
  | zero =>
    intro n o j
    have : decide (n ≤ j ∧ j < n + 0) = false := by apply decide_eq_false; omega
    rw [this]
    simp
  | succ d ih =>
    intro n o j
    rw [List.range'_succ, List.foldl_cons, ih]
    by_cases hb : cellB A D n = true
    · rw [if_pos hb, Nat.testBit_or, Nat.testBit_two_pow]
      by_cases e : n = j
      · subst e; simp [hb]
      · have : (decide (n + 1 ≤ j ∧ j < n + 1 + d)) = decide (n ≤ j ∧ j < n + (d + 1)) := by apply decide_eq_decide.2; omega
        simp [e, this]
    · rw [if_neg hb]
      by_cases e : n = j
      · subst e; simp [hb]
      · have : (decide (n + 1 ≤ j ∧ j < n + 1 + d)) = decide (n ≤ j ∧ j < n + (d + 1)) := by apply decide_eq_decide.2; omega
        rw [this]
theorem cellsN_bit (A D j : Nat) : (cellsN A D).testBit j = (decide (j < 64) && cellB A D j) := by
  unfold cellsN
  rw [List.range_eq_range', cells_fold_bit]
  simp

def oc32 (T : ByteArray) (a0 : Int) : Option (Int) := if 0 ≤ (a0 / 16777216) then (if (a0 / 16777216) < 256 then (if 0 ≤ (Go.bits .and .u32 (a0 / 65536) 255) then (if (Go.bits .and .u32 (a0 / 65536) 255) < 256 then (if 0 ≤ (Go.bits .and .u32 (a0 / 256) 255) then (if (Go.bits .and .u32 (a0 / 256) 255) < 256 then (if 0 ≤ (Go.bits .and .u32 a0 255) then (if (Go.bits .and .u32 a0 255) < 256 then (some (((((((bt T (a0 / 16777216)) + (bt T (Go.bits .and .u32 (a0 / 65536) 255))) % 256) + (bt T (Go.bits .and .u32 (a0 / 256) 255))) % 256) + (bt T (Go.bits .and .u32 a0 255))) % 256)) else (none)) else (none)) else (none)) else (none)) else (none)) else (none)) else (none)) else (none)
theorem oc32_tab : ∃ T : ByteArray, (∀ i : Nat, i < 256 → bt T (i : Int) = ((p8 i : Nat) : Int)) ∧ bits_OnesCount32.f = oc32 T :=
  ⟨_, by decide +kernel, rfl⟩
theorem and255 (x : Nat) (h : x < 4294967296) : Go.bits .and .u32 (x : Int) 255 = ((x % 256 : Nat) : Int) := by
  have := u32_and_nat x 255 h (by omega)
  rw [show ((255 : Nat) : Int) = 255 from rfl] at this
  rw [this, show (255 : Nat) = 2 ^ 8 - 1 from rfl, Nat.and_two_pow_sub_one_eq_mod]
theorem ones32 (x : Nat) (h : x < 4294967296) : bits_OnesCount32.f (x : Int) = some ((pop 32 x : Nat) : Int) := by
  obtain ⟨T, hT, hf⟩ := oc32_tab
  rw [hf]
  unfold oc32
  rw [show (x : Int) / 16777216 = ((x / 16777216 : Nat) : Int) by omega, show (x : Int) / 65536 = ((x / 65536 : Nat) : Int) by omega, show (x : Int) / 256 = ((x / 256 : Nat) : Int) by omega, and255 _ (by omega), and255 _ (by omega), and255 _ h]
  rw [if_pos (by omega), if_pos (by omega), if_pos (by omega), if_pos (by omega), if_pos (by omega), if_pos (by omega), if_pos (by omega), if_pos (by omega)]
  rw [hT _ (by omega), hT _ (by omega), hT _ (by omega), hT _ (by omega)]
  have hp : pop 32 x = p8 (x % 256) + p8 (x / 256 % 256) + p8 (x / 65536 % 256) + p8 (x / 16777216) := by
    rw [pop_add 8 24, pop_add 8 16, pop_add 8 8]
    simp only [pop8, Nat.div_div_eq_div_mul, Nat.reducePow, Nat.reduceMul, p8_mod]
    omega
  have l0 := p8_le (x % 256)
  have l1 := p8_le (x / 256 % 256)
  have l2 := p8_le (x / 65536 % 256)
  have l3 := p8_le (x / 16777216)
  rw [hp]
  refine congrArg some ?_
  omega

def len32 (T : ByteArray) (a0 : Int) : Option (Int) := if a0 ≥ 65536 then (if (a0 / 65536) ≥ 256 then (if 0 ≤ (((a0 / 65536) / 256) % 256) then (if (((a0 / 65536) / 256) % 256) < 256 then (some (wrap64 ((16 + 8) + (wrap64 (bt T (((a0 / 65536) / 256) % 256)))))) else (none)) else (none)) else (if 0 ≤ ((a0 / 65536) % 256) then (if ((a0 / 65536) % 256) < 256 then (some (wrap64 (16 + (wrap64 (bt T ((a0 / 65536) % 256)))))) else (none)) else (none))) else (if a0 ≥ 256 then (if 0 ≤ ((a0 / 256) % 256) then (if ((a0 / 256) % 256) < 256 then (some (wrap64 ((0 + 8) + (wrap64 (bt T ((a0 / 256) % 256)))))) else (none)) else (none)) else (if 0 ≤ ((a0) % 256) then (if ((a0) % 256) < 256 then (some (wrap64 (0 + (wrap64 (bt T ((a0) % 256)))))) else (none)) else (none)))
theorem len32_tab : ∃ T : ByteArray, (∀ i : Nat, i < 256 → i ≠ 0 → bt T (i : Int) = ((i.log2 + 1 : Nat) : Int)) ∧ bits_Len32.f = len32 T :=
  ⟨_, by decide +kernel, rfl⟩
theorem len_nat (x : Nat) (h : x < 4294967296) (h0 : x ≠ 0) : bits_Len32.f (x : Int) = some ((x.log2 + 1 : Nat) : Int) := by
  obtain ⟨T, hT, hf⟩ := len32_tab
  rw [hf]
  unfold len32
  have lt : ∀ y : Nat, y < 256 → y ≠ 0 → y.log2 < 8 := fun y hy h0 => (Nat.log2_lt h0).2 (by omega)
  by_cases c1 : 65536 ≤ x
  · rw [if_pos (by omega)]
    by_cases c2 : 16777216 ≤ x
    · rw [if_pos (by omega), show (x : Int) / 65536 / 256 % 256 = ((x / 16777216 : Nat) : Int) by omega, if_pos (by omega), if_pos (by omega), hT _ (by omega) (by omega)]
      have e := log2_up x 24 (by omega)
      rw [show (2 : Nat) ^ 24 = 16777216 from rfl] at e
      have := lt (x / 16777216) (by omega) (by omega)
      rw [w64 (x := ((_ : Nat) : Int)) (by omega) (by omega), w64 (by omega) (by omega)]
      refine congrArg some ?_
      omega
    · rw [if_neg (by omega), show (x : Int) / 65536 % 256 = ((x / 65536 : Nat) : Int) by omega, if_pos (by omega), if_pos (by omega), hT _ (by omega) (by omega)]
      have e := log2_up x 16 (by omega)
      rw [show (2 : Nat) ^ 16 = 65536 from rfl] at e
      have := lt (x / 65536) (by omega) (by omega)
      rw [w64 (x := ((_ : Nat) : Int)) (by omega) (by omega), w64 (by omega) (by omega)]
      refine congrArg some ?_
      omega
  · rw [if_neg (by omega)]
    by_cases c2 : 256 ≤ x
    · rw [if_pos (by omega), show (x : Int) / 256 % 256 = ((x / 256 : Nat) : Int) by omega, if_pos (by omega), if_pos (by omega), hT _ (by omega) (by omega)]
      have e := log2_up x 8 (by omega)
      rw [show (2 : Nat) ^ 8 = 256 from rfl] at e
      have := lt (x / 256) (by omega) (by omega)
      rw [w64 (x := ((_ : Nat) : Int)) (by omega) (by omega), w64 (by omega) (by omega)]
      refine congrArg some ?_
      omega
    · rw [if_neg (by omega), show (x : Int) % 256 = (x : Int) by omega, if_pos (by omega), if_pos (by omega), hT _ (by omega) h0]
      have := lt x (by omega) h0
      rw [w64 (x := ((_ : Nat) : Int)) (by omega) (by omega), w64 (by omega) (by omega)]
      refine congrArg some ?_
      omega

theorem tz_tab : ∀ t : Nat, t < 32 → tz32tab.getD (2 ^ t * 125613361 % 4294967296 / 134217728) 0 = (t : Int) := by decide +kernel
theorem tz_nat (x t q : Nat) (hx : x = 2 ^ t * (2 * q + 1)) (h : x < 4294967296) (ht : t < 32) : bits_TrailingZeros32.f (x : Int) = some (t : Int) := by
  have hp := Nat.two_pow_pos t
  have h0 : 2 ^ t ≤ x := by rw [hx]; exact Nat.le_mul_of_pos_right _ (by omega)
  unfold bits_TrailingZeros32.f
  rw [if_neg (by omega), show -(x : Int) % 4294967296 = ((4294967296 - x : Nat) : Int) by omega, u32_and_nat x (4294967296 - x) h (by omega)]
  have hq : q < 2 ^ (31 - t) := by
    have : 2 ^ t * (2 * q + 1) < 2 ^ t * 2 ^ (32 - t) := by rw [← Nat.pow_add, show t + (32 - t) = 32 by omega, ← hx]; exact h
    have := Nat.lt_of_mul_lt_mul_left this
    rw [show 32 - t = (31 - t) + 1 by omega, Nat.pow_succ] at this
    omega
  have hl := low_and t (31 - t) q hq
  rw [show t + (31 - t) + 1 = 32 by omega, ← hx, show (2 : Nat) ^ 32 = 4294967296 from rfl] at hl
  rw [hl]
  have e : (((2 ^ t : Nat) : Int) * 125613361 % 4294967296 / 134217728).toNat = 2 ^ t * 125613361 % 4294967296 / 134217728 := by
    rw [show ((2 ^ t : Nat) : Int) * 125613361 = ((2 ^ t * 125613361 : Nat) : Int) from (Int.natCast_mul (2 ^ t) 125613361).symm]
    generalize 2 ^ t * 125613361 = Y
    omega
  rw [e]
  exact congrArg some (tz_tab t ht)

/-- A mask is a turn by a rule, or it is none: the program and the reference say the same. -/
theorem may_ev (r : Int) (n : Nat) (hr : 0 ≤ r ∧ r ≤ 5) (h : n < 4294967296) : ∃ b : Bool, Ev (fun k => spec_l04May.f k r (n : Int)) b ∧ Ev (fun k => impl_mayTurn.f k r (n : Int)) b ∧ (b = true → n ≠ 0 ∧ n < 16777216) := by
  unfold spec_l04May.f impl_mayTurn.f
  by_cases c0 : n = 0
  · subst c0
    refine ⟨false, Ev_pos (by trivial) (Ev_round ?_), Ev_pos (by trivial) (Ev_round ?_), by simp⟩
    · simp only [spec_l04May.j0]
      exact Ev_pos (by trivial) (Ev.now _)
    · simp only [impl_mayTurn.j0]
      exact Ev_pos (by trivial) (Ev.now _)
  · by_cases c1 : n < 16777216
    · have hz : (((n : Int) / 16777216) != 0) = false := by rw [show (n : Int) / 16777216 = 0 by omega]; rfl
      rw [hz]
      obtain ⟨t, q, hn⟩ := split_low n (by omega)
      obtain ⟨hrun, htl, ht⟩ := run_of n t q hn (by omega)
      have hpop : pop 64 n = pop 32 n := pop_small 32 n (by omega) 32
      have hs : Ev (fun k => spec_l04Bits.f k (IntKind.u64.wrap (n : Int))) ((pop 32 n : Nat) : Int) := by
        rw [wu64 (by omega) (by omega), ← hpop]
        exact spec_bits_f (by omega) (by omega)
      have hi := ones32 n h
      have hlog : n.log2 < 32 := (Nat.log2_lt c0).2 (by omega)
      have h4 : (((pop 32 n : Nat) : Int) == wrap64 (((n.log2 + 1 : Nat) : Int) - (t : Int))) = decide ((2 * q + 1) &&& (2 * q + 1 + 1) = 0) := by
        rw [w64 (by omega) (by omega)]
        by_cases c : (2 * q + 1) &&& (2 * q + 1 + 1) = 0
        · have := hrun.1 c
          rw [decide_eq_true c]
          simp
          omega
        · have : ¬ pop 32 n = n.log2 + 1 - t := fun e => c (hrun.2 e)
          rw [decide_eq_false c]
          simp
          omega
      refine ⟨if r = 0 then (((pop 32 n : Nat) : Int) == 1) else if r = 1 then decide (((pop 32 n : Nat) : Int) ≤ 2) else if r = 2 then (((pop 32 n : Nat) : Int) == 2) else if r = 3 then decide (((pop 32 n : Nat) : Int) ≤ 3) else if r = 4 then decide ((2 * q + 1) &&& (2 * q + 1 + 1) = 0) else (((pop 32 n : Nat) : Int) == 3), Ev_neg (by omega) (Ev_round ?_), Ev_neg (by omega) (Ev_round ?_), fun _ => ⟨c0, c1⟩⟩
      · simp only [spec_l04May.j0]
        refine Ev_neg (by simp) (Ev.bind hs ?_)
        refine Ev_ite (fun _ => Ev.now _) (fun r0 => Ev_ite (fun _ => Ev.now _) (fun r1 => Ev_ite (fun _ => Ev.now _) (fun r2 => Ev_ite (fun _ => Ev.now _) (fun r3 => ?_))))
        by_cases r5 : r = 5
        · rw [if_neg (by omega)]
          exact Ev_pos r5 (Ev.now _)
        · rw [if_pos (by omega)]
          refine Ev_neg r5 ?_
          have := strip_ev t q (by omega)
          rw [← hn] at this
          exact this
      · simp only [impl_mayTurn.j0]
        refine Ev_neg (by simp) (Ev_bind1 hi ?_)
        refine Ev_ite (fun _ => Ev.now _) (fun r0 => Ev_ite (fun _ => Ev.now _) (fun r1 => Ev_ite (fun _ => Ev.now _) (fun r2 => Ev_ite (fun _ => Ev.now _) (fun r3 => Ev_ite (fun _ => ?_) (fun _ => Ev.now _)))))
        refine Ev_bind1 (len_nat n h c0) (Ev_bind1 (tz_nat n t q hn h ht) ?_)
        rw [h4]
        exact Ev.now _
    · have hz : (((n : Int) / 16777216) != 0) = true := by simp; omega
      rw [hz]
      refine ⟨false, Ev_neg (by omega) (Ev_round ?_), Ev_neg (by omega) (Ev_round ?_), by simp⟩
      · simp only [spec_l04May.j0]
        exact Ev_pos (by trivial) (Ev.now _)
      · simp only [impl_mayTurn.j0]
        exact Ev_pos (by trivial) (Ev.now _)
/-- Both sides' rules. -/
theorem rule_in (r : Int) : spec_l04Rule.f r = some (decide (0 ≤ r ∧ r ≤ 5)) := by
  unfold spec_l04Rule.f spec_l00In.f
  by_cases h : r ≥ 0
  · rw [if_pos h]
    have : decide (r ≤ 5) = decide (0 ≤ r ∧ r ≤ 5) := decide_eq_decide.2 ⟨fun h2 => ⟨h, h2⟩, fun h2 => h2.2⟩
    rw [this]; rfl
  · rw [if_neg h]
    have : decide (0 ≤ r ∧ r ≤ 5) = false := decide_eq_false (fun h2 => h h2.1)
    rw [this]; rfl
theorem isRule_in (r : Int) : (if 0 ≤ r then (some (decide (r ≤ 5))) else (some false)) = some (decide (0 ≤ r ∧ r ≤ 5)) := by
  by_cases h : 0 ≤ r
  · rw [if_pos h]
    have : decide (r ≤ 5) = decide (0 ≤ r ∧ r ≤ 5) := decide_eq_decide.2 ⟨fun h2 => ⟨h, h2⟩, fun h2 => h2.2⟩
    rw [this]
  · rw [if_neg h]
    have : decide (0 ≤ r ∧ r ≤ 5) = false := decide_eq_false (fun h2 => h h2.1)
    rw [this]

theorem greatest_nat (x : Nat) (h : x < 4294967296) (h0 : x ≠ 0) : impl_greatest.f (x : Int) = some ((x.log2 : Nat) : Int) := by
  unfold impl_greatest.f
  have hl : x.log2 < 32 := (Nat.log2_lt h0).2 (by omega)
  rw [len_nat x h h0]
  simp only [Option.bind_some]
  rw [w64 (by omega) (by omega)]
  refine congrArg some ?_
  omega

theorem impl_cells_ev (A D : Nat) (hA : A ≤ 255) (hD : D ≤ 255) : ∀ (d n o : Nat), n + d = 8 → o < 2 ^ 64 → (∀ j, o.testBit j = (decide (j / 8 < n) && cellB A D j)) → Ev (fun k => impl_Turn_cells.l0 k (o : Int) (n : Int) (A : Int) (D : Int)) ((cellsN A D : Nat) : Int) := by
  intro d
  induction d with
  | zero =>
    intro n o h ho hbit
    refine Ev_round ?_
    simp only [impl_Turn_cells.l0]
    refine Ev_neg (by omega) (Ev_as (Ev.now _) ?_)
    congr 1
    apply Nat.eq_of_testBit_eq
    intro j
    rw [hbit, cellsN_bit]
    congr 1
    apply decide_eq_decide.2
    omega
  | succ d ih =>
    intro n o h ho hbit
    refine Ev_round ?_
    simp only [impl_Turn_cells.l0]
    have e4 : wrap64 ((n : Int) + 1) = ((n + 1 : Nat) : Int) := by rw [w64 (by omega) (by omega)]; omega
    have e5 : wrap64 (8 * (n : Int)) = ((8 * n : Nat) : Int) := by rw [w64 (by omega) (by omega)]; omega
    have e6 : IntKind.u64.wrap (A : Int) = (A : Int) := wu64 (by omega) (by omega)
    have hp : A * 2 ^ (8 * n) < 2 ^ 64 := by
      have : 2 ^ (8 * n) ≤ 2 ^ 56 := Nat.pow_le_pow_right (by omega) (by omega)
      calc A * 2 ^ (8 * n) ≤ 255 * 2 ^ 56 := Nat.mul_le_mul hA this
        _ < 2 ^ 64 := by omega
    rw [e4, e5, e6, bit_u32 D n (by omega) (by omega), shl_u64 A (8 * n) (by omega) (by omega), u64_or_nat o (A * 2 ^ (8 * n)) (by omega) (by omega)]
    refine Ev_pos (by omega) (Ev_pos (by omega) ?_)
    by_cases bd : D.testBit n = true
    · refine Ev_pos (by simp [bd]) (Ev_pos (by omega) (ih (n + 1) _ (by omega) (Nat.or_lt_two_pow ho hp) (fun j => ?_)))
      rw [Nat.testBit_or, hbit, Nat.testBit_mul_two_pow]
      by_cases c : j / 8 = n
      · have c1 : decide (8 * n ≤ j) = true := by simp; omega
        have c2 : j - 8 * n = j % 8 := by omega
        have c3 : decide (j / 8 < n) = false := by simp; omega
        have c4 : decide (j / 8 < n + 1) = true := by simp; omega
        rw [c1, c2, c3, c4]
        simp [cellB, c, bd]
      · have c4 : decide (j / 8 < n + 1) = decide (j / 8 < n) := by apply decide_eq_decide.2; omega
        rw [c4]
        by_cases c5 : 8 * n ≤ j
        · have : A.testBit (j - 8 * n) = false := Nat.testBit_lt_two_pow (Nat.lt_of_lt_of_le (show A < 2 ^ 8 by omega) (Nat.pow_le_pow_right (by omega) (by omega)))
          simp [this]
        · simp [c5]
    · refine Ev_neg (by simp [bd]) (ih (n + 1) _ (by omega) ho (fun j => ?_))
      rw [hbit]
      by_cases c : j / 8 = n
      · simp [cellB, c, bd]
      · have c4 : decide (j / 8 < n + 1) = decide (j / 8 < n) := by apply decide_eq_decide.2; omega
        rw [c4]
theorem impl_cells_f (A D : Nat) (hA : A ≤ 255) (hD : D ≤ 255) : Ev (fun k => impl_Turn_cells.f k (A : Int) (D : Int)) ((cellsN A D : Nat) : Int) :=
  impl_cells_ev A D hA hD 8 0 0 (by omega) (by omega) (by simp)

/-- The cells of two single coins. -/
theorem cells_one (a d : Nat) (ha : a < 8) (hd : d < 8) : cellsN (2 ^ a) (2 ^ d) = 2 ^ (a + 8 * d) := by
  apply Nat.eq_of_testBit_eq
  intro j
  rw [cellsN_bit, cellB, Nat.testBit_two_pow, Nat.testBit_two_pow, Nat.testBit_two_pow]
  by_cases c : a + 8 * d = j
  · subst c
    simp
    omega
  · simp [c]
    omega
/-- Both sides, where both masks are turns within the board: the same pair. -/
theorem board_core (A D B : Nat) (A0 : A ≠ 0) (D0 : D ≠ 0) (ca : A ≤ 255) (cd : D ≤ 255) (hB : B ≤ 18446744073709551615) : ∃ p : Int × Int,
    Ev (fun k => spec_TurnBoard.j1 k (B : Int) false (A : Int) (D : Int)) p ∧
    Ev (fun k => (impl_greatest.f (A : Int)).bind fun t130 => ((impl_greatest.f (D : Int)).bind fun t131 => (if 0 ≤ (wrap64 (t130 + (wrap64 (8 * t131)))) then (if (Go.bits .and .u64 (shr .u64 (B : Int) (wrap64 (t130 + (wrap64 (8 * t131))))) 1) = 0 then (some (0, 4)) else ((impl_Turn_cells.f k (A : Int) (D : Int)).bind fun t132 => (some (Go.bits .xor .u64 (B : Int) t132, 0)))) else (none)))) p := by
  have la : A.log2 < 8 := (Nat.log2_lt A0).2 (by omega)
  have ld : D.log2 < 8 := (Nat.log2_lt D0).2 (by omega)
  have pa : 2 ^ A.log2 ≤ 255 := Nat.le_trans (log2_le A0).1 ca
  have pd : 2 ^ D.log2 ≤ 255 := Nat.le_trans (log2_le D0).1 cd
  have hj : A.log2 + 8 * D.log2 ≤ 63 := by omega
  have e0 : wrap64 (((A.log2 : Nat) : Int) + wrap64 (8 * ((D.log2 : Nat) : Int))) = ((A.log2 + 8 * D.log2 : Nat) : Int) := by
    rw [w64 (x := 8 * ((D.log2 : Nat) : Int)) (by omega) (by omega), w64 (by omega) (by omega)]
    omega
  have e1 := bit_u64 B (A.log2 + 8 * D.log2) hB hj
  have hcell := spec_cells_f (2 ^ A.log2) (2 ^ D.log2) pa pd
  rw [cells_one _ _ la ld] at hcell
  have pj : 2 ^ (A.log2 + 8 * D.log2) < 18446744073709551616 := Nat.lt_of_le_of_lt (two_pow_le63 hj) (by decide)
  have hand := u64_and_nat B (2 ^ (A.log2 + 8 * D.log2)) (Nat.lt_succ_of_le hB) pj
  have hbit := bit_and B (A.log2 + 8 * D.log2)
  have ta := top_f A (by omega) A0
  have td := top_f D (by omega) D0
  have ga := greatest_nat A (by omega) A0
  have gd := greatest_nat D (by omega) D0
  have n0 : (0 : Int) ≤ ((A.log2 + 8 * D.log2 : Nat) : Int) := Int.natCast_nonneg _
  clear la ld pa pd pj
  by_cases cb : B.testBit (A.log2 + 8 * D.log2) = true
  · rw [if_pos cb] at e1
    have hne : ¬ B &&& 2 ^ (A.log2 + 8 * D.log2) = 0 := fun h => by rw [hbit.1 h] at cb; cases cb
    refine ⟨(Go.bits .xor .u64 (B : Int) ((cellsN A D : Nat) : Int), 0), Ev_round ?_, Ev_bind1 ga (Ev_bind1 gd ?_)⟩
    · simp only [spec_TurnBoard.j1]
      refine Ev_neg (by decide) (Ev.bind ta (Ev.bind td (Ev.bind hcell (Ev_neg ?_ (Ev.bind (spec_cells_f A D ca cd) (Ev.now _))))))
      rw [hand]
      exact fun h => hne (Int.ofNat_eq_zero.1 h)
    · rw [e0, e1]
      exact Ev_pos n0 (Ev_neg (by decide) (Ev.bind (impl_cells_f A D ca cd) (Ev.now _)))
  · rw [if_neg cb] at e1
    have heq : B &&& 2 ^ (A.log2 + 8 * D.log2) = 0 := hbit.2 (by simpa using cb)
    refine ⟨(0, 4), Ev_round ?_, Ev_bind1 ga (Ev_bind1 gd ?_)⟩
    · simp only [spec_TurnBoard.j1]
      refine Ev_neg (by decide) (Ev.bind ta (Ev.bind td (Ev.bind hcell (Ev_pos ?_ (Ev.now _)))))
      rw [hand, heq]
      rfl
    · rw [e0, e1]
      exact Ev_pos n0 (Ev_pos rfl (Ev.now _))
theorem FnExactTurnBoard (r s B a d : Int) (wr : (Lit.int .i64 r).wf = true) (ws : (Lit.int .i64 s).wf = true) (wb : (Lit.int .u64 B).wf = true) (wa : (Lit.int .u32 a).wf = true) (wd : (Lit.int .u32 d).wf = true) : ∃ k, laws_FnExactTurnBoard.f k r s B a d = some true := by
  obtain ⟨a0, a1⟩ := wf_u32 wa
  obtain ⟨d0, d1⟩ := wf_u32 wd
  obtain ⟨b0, b1⟩ := wf_u64 wb
  obtain ⟨A, rfl⟩ := Int.eq_ofNat_of_zero_le a0
  obtain ⟨D, rfl⟩ := Int.eq_ofNat_of_zero_le d0
  obtain ⟨B, rfl⟩ := Int.eq_ofNat_of_zero_le b0
  refine Ev.rounds (r := true) ?_
  unfold laws_FnExactTurnBoard.f laws_toTurn.f spec_TurnBoard.f impl_TurnBoard.f impl_cellCode.f impl_isRule.f impl_within.f
  rw [rule_in, rule_in, isRule_in, isRule_in]
  simp only [Option.bind_some]
  have done : ∀ (p : Int × Int) {S I : Nat → Option (Int × Int)}, Ev S p → Ev I p → Ev (fun k => (S k).bind fun bt => (I k).bind fun bt2 => (if bt2.1 = bt.1 then (if bt2.2 = bt.2 then (some true) else (some false)) else (some false))) true := by
    intro p S I hS hI
    exact Ev.bind hS (Ev.bind hI (Ev_pos (by trivial) (Ev_pos (by trivial) (Ev.now _))))
  by_cases cr : 0 ≤ r ∧ r ≤ 5
  · have hr : decide (0 ≤ r ∧ r ≤ 5) = true := decide_eq_true cr
    by_cases cs : 0 ≤ s ∧ s ≤ 5
    · have hs : decide (0 ≤ s ∧ s ≤ 5) = true := decide_eq_true cs
      simp only [hr, hs, Option.bind_some, if_true, Bool.not_true, ge_iff_le, Int.le_refl, decide_true]
      obtain ⟨b, ar, ai, ab⟩ := may_ev r A cr (by omega)
      obtain ⟨c, dr, di, db⟩ := may_ev s D cs (by omega)
      have J0 : ∀ (p : Int × Int), Ev (fun k => (spec_l04May.f k r (A : Int)).bind fun t107 => (if t107 = true then ((spec_l04May.f k s (D : Int)).bind fun t108 => (if t108 = true then (if (256 : Int) ≤ (A : Int) then (spec_TurnBoard.j1 k (B : Int) true (A : Int) (D : Int)) else (spec_TurnBoard.j1 k (B : Int) (decide ((256 : Int) ≤ (D : Int))) (A : Int) (D : Int))) else (spec_TurnBoard.j1 k (B : Int) true (A : Int) (D : Int)))) else (spec_TurnBoard.j1 k (B : Int) true (A : Int) (D : Int)))) p →
          Ev (fun k => spec_TurnBoard.j0 k r s (B : Int) false (A : Int) (D : Int)) p := by
        intro p h
        refine Ev_round ?_
        simp only [spec_TurnBoard.j0]
        exact Ev_neg (by simp) h
      have J1 : Ev (fun k => spec_TurnBoard.j1 k (B : Int) true (A : Int) (D : Int)) (0, 4) := by
        refine Ev_round ?_
        simp only [spec_TurnBoard.j1]
        exact Ev_pos (by trivial) (Ev.now _)
      cases b with
      | false => exact done (0, 4) (J0 _ (Ev.bind ar (Ev_neg (by simp) J1))) (Ev.bind ai (Ev_neg (by simp) (Ev.now _)))
      | true =>
        cases c with
        | false => exact done (0, 4) (J0 _ (Ev.bind ar (Ev_pos (by trivial) (Ev.bind dr (Ev_neg (by simp) J1))))) (Ev.bind ai (Ev_pos (by trivial) (Ev.bind di (Ev_neg (by simp) (Ev.now _)))))
        | true =>
          obtain ⟨A0, A1⟩ := ab rfl
          obtain ⟨D0, D1⟩ := db rfl
          by_cases ca : A ≤ 255
          · by_cases cd : D ≤ 255
            · obtain ⟨p, hS, hI⟩ := board_core A D B A0 D0 ca cd (by omega)
              have dd : decide ((256 : Int) ≤ (D : Int)) = false := decide_eq_false (by omega)
              refine done p (J0 _ (Ev.bind ar (Ev_pos (by trivial) (Ev.bind dr (Ev_pos (by trivial) (Ev_neg (by omega) ?_)))))) (Ev.bind ai (Ev_pos (by trivial) (Ev.bind di (Ev_pos (by trivial) (Ev_pos (by omega) (Ev_pos (by omega) hI))))))
              rw [dd]
              exact hS
            · have dd : decide ((256 : Int) ≤ (D : Int)) = true := by simp; omega
              refine done (0, 4) (J0 _ (Ev.bind ar (Ev_pos (by trivial) (Ev.bind dr (Ev_pos (by trivial) (Ev_neg (by omega) ?_)))))) (Ev.bind ai (Ev_pos (by trivial) (Ev.bind di (Ev_pos (by trivial) (Ev_pos (by omega) (Ev_neg (by omega) (Ev.now _)))))))
              rw [dd]
              exact J1
          · exact done (0, 4) (J0 _ (Ev.bind ar (Ev_pos (by trivial) (Ev.bind dr (Ev_pos (by trivial) (Ev_pos (by omega) J1)))))) (Ev.bind ai (Ev_pos (by trivial) (Ev.bind di (Ev_pos (by trivial) (Ev_neg (by omega) (Ev.now _))))))
    · have hs : decide (0 ≤ s ∧ s ≤ 5) = false := decide_eq_false cs
      simp only [hr, hs, Option.bind_some, if_true, Bool.not_false]
      refine done (0, 2) (Ev_round ?_) (Ev_bind1 (a := 2) rfl (Ev_neg (by decide) (Ev.now _)))
      simp only [spec_TurnBoard.j0]
      exact Ev_pos (by trivial) (Ev.now _)
  · have hr : decide (0 ≤ r ∧ r ≤ 5) = false := decide_eq_false cr
    simp only [hr, Option.bind_some]
    refine done (0, 2) (Ev_neg (by simp) (Ev_round ?_)) (Ev_bind1 (a := 2) rfl (Ev_neg (by decide) (Ev.now _)))
    simp only [spec_TurnBoard.j0]
    exact Ev_pos (by trivial) (Ev.now _)

end Go.Proofs.YteinllalhiflcaaDoor.Pure
