/- How many bits of a number are 1: by halves, by bytes, and by the sums of neighbouring bits. No program is in sight. -/
import Derived.Test.YtnicjjnghclgpaaDoorLib
import Derived.Laws.Bits128
set_option linter.unusedVariables false
set_option linter.unusedSimpArgs false
namespace Go.Proofs.YtnicjjnghclgpaaDoor.Lib
open Go.RowKit Go.Proofs.YtnicjjnghclgpaaDoorW.PrintWords Go.Proofs.YtnicjjnghclgpaaDoorW.PrintLast

/-- The bits of a number that are 1, among the first n. -/
def pop : Nat → Nat → Nat
  | 0, _ => 0
  | n + 1, x => x % 2 + pop n (x / 2)
theorem pop_zero (n : Nat) : pop n 0 = 0 := by
  induction n with
  | zero => rfl
  | succ n ih => simp [pop, ih]
theorem pop_le (n x : Nat) : pop n x ≤ n := by
  induction n generalizing x with
  | zero => simp [pop]
  | succ n ih =>
    have := ih (x / 2)
    simp only [pop]
    omega
theorem pop_add (m n x : Nat) : pop (m + n) x = pop m x + pop n (x / 2 ^ m) := by
  induction m generalizing x with
  | zero => simp [pop]
  | succ m ih =>
    rw [show m + 1 + n = m + n + 1 by omega]
    simp only [pop]
    rw [ih, Nat.div_div_eq_div_mul, Nat.pow_succ, Nat.mul_comm 2]
    omega
theorem pop_small (n x : Nat) (h : x < 2 ^ n) (m : Nat) : pop (n + m) x = pop n x := by
  rw [pop_add, Nat.div_eq_of_lt h, pop_zero]
  rfl
/-- The bits of a byte. -/
def p8 (b : Nat) : Nat := b % 2 + b / 2 % 2 + b / 4 % 2 + b / 8 % 2 + b / 16 % 2 + b / 32 % 2 + b / 64 % 2 + b / 128 % 2
theorem pop8 (b : Nat) : pop 8 b = p8 b := by
  simp only [pop, p8, Nat.div_div_eq_div_mul]
  omega
theorem p8_mod (x : Nat) : p8 (x % 256) = p8 x := by unfold p8; omega
theorem p8_le (b : Nat) : p8 b ≤ 8 := by unfold p8; omega

theorem and_split (y m b c : Nat) (hb : b < 256) (hc : c < 256) : (256 * y + b) &&& (256 * m + c) = 256 * (y &&& m) + (b &&& c) := by
  have h1 := Nat.and_div_two_pow (a := 256 * y + b) (b := 256 * m + c) (n := 8)
  have h2 := Nat.and_mod_two_pow (a := 256 * y + b) (b := 256 * m + c) (n := 8)
  have e : (2 : Nat) ^ 8 = 256 := rfl
  rw [e] at h1 h2
  rw [show (256 * y + b) / 256 = y by omega, show (256 * m + c) / 256 = m by omega] at h1
  rw [show (256 * y + b) % 256 = b by omega, show (256 * m + c) % 256 = c by omega] at h2
  omega

def M0 : Nat → Nat
  | 0 => 0
  | k + 1 => 256 * M0 k + 85
def M1 : Nat → Nat
  | 0 => 0
  | k + 1 => 256 * M1 k + 51
def M2 : Nat → Nat
  | 0 => 0
  | k + 1 => 256 * M2 k + 15
def st1 (m x : Nat) : Nat := (x / 2 &&& m) + (x &&& m)
def st2 (m x : Nat) : Nat := (x / 4 &&& m) + (x &&& m)
def st3 (m x : Nat) : Nat := (x / 16 + x) &&& m
/-- The bytes, each by how many of its bits are 1. -/
def byByte : Nat → Nat → Nat
  | 0, _ => 0
  | k + 1, x => 256 * byByte k (x / 256) + p8 (x % 256)

theorem low1 : ∀ b < 256, ∀ r < 2, (128 * r + b / 2) &&& 85 = (b / 2) &&& 85 := by decide +kernel
theorem low2 : ∀ b < 256, ∀ r < 4, (64 * r + b / 4) &&& 51 = (b / 4) &&& 51 := by decide +kernel
theorem lowAll : ∀ b < 256, st1 85 b < 256 ∧ st2 51 (st1 85 b) < 256 ∧ st2 51 (st1 85 b) % 16 ≤ 4 ∧ st2 51 (st1 85 b) / 16 ≤ 4 ∧ st3 15 (st2 51 (st1 85 b)) = p8 b := by decide +kernel
theorem st1_split (y m b : Nat) (hb : b < 256) : st1 (256 * m + 85) (256 * y + b) = 256 * st1 m y + st1 85 b := by
  unfold st1
  rw [show (256 * y + b) / 2 = 256 * (y / 2) + (128 * (y % 2) + b / 2) by omega, and_split _ _ _ _ (by omega) (by omega), and_split _ _ _ _ hb (by omega), low1 b hb _ (by omega)]
  omega
theorem st2_split (y m b : Nat) (hb : b < 256) : st2 (256 * m + 51) (256 * y + b) = 256 * st2 m y + st2 51 b := by
  unfold st2
  rw [show (256 * y + b) / 4 = 256 * (y / 4) + (64 * (y % 4) + b / 4) by omega, and_split _ _ _ _ (by omega) (by omega), and_split _ _ _ _ hb (by omega), low2 b hb _ (by omega)]
  omega
theorem st3_split (y m b : Nat) (hb : b < 256) (h1 : b % 16 ≤ 4) (h2 : b / 16 ≤ 4) (hy : y % 16 ≤ 4) : st3 (256 * m + 15) (256 * y + b) = 256 * st3 m y + st3 15 b := by
  unfold st3
  rw [show (256 * y + b) / 16 + (256 * y + b) = 256 * (y / 16 + y) + (16 * (y % 16) + b / 16 + b) by omega, and_split _ _ _ _ (by omega) (by omega), nat_mask4, nat_mask4]
  omega
theorem st12_mod (k x : Nat) : st2 (M1 k) (st1 (M0 k) x) % 16 ≤ 4 := by
  cases k with
  | zero => simp [M1, M0, st2, st1]
  | succ k =>
    have hx : x = 256 * (x / 256) + x % 256 := by omega
    have hb : x % 256 < 256 := Nat.mod_lt _ (by omega)
    obtain ⟨h1, h2, h3, h4, h5⟩ := lowAll _ hb
    simp only [M0, M1]
    rw [hx, st1_split _ _ _ hb, st2_split _ _ _ h1]
    omega
theorem swar (k x : Nat) : st3 (M2 k) (st2 (M1 k) (st1 (M0 k) x)) = byByte k x := by
  induction k generalizing x with
  | zero => simp [M0, M1, M2, st1, st2, st3, byByte]
  | succ k ih =>
    have hx : x = 256 * (x / 256) + x % 256 := by omega
    have hb : x % 256 < 256 := Nat.mod_lt _ (by omega)
    obtain ⟨h1, h2, h3, h4, h5⟩ := lowAll _ hb
    simp only [M0, M1, M2, byByte]
    rw [← ih]
    conv => lhs; rw [hx]
    rw [st1_split _ _ _ hb, st2_split _ _ _ h1, st3_split _ _ _ h2 h3 h4 (st12_mod k _), h5]
theorem M0_8 : M0 8 = 6148914691236517205 := by decide
theorem M1_8 : M1 8 = 3689348814741910323 := by decide
theorem M2_8 : M2 8 = 1085102592571150095 := by decide
theorem dv (a b c : Nat) (h : a < c) : (a + c * b) / c = b := by
  rw [Nat.add_mul_div_left _ _ (by omega), Nat.div_eq_of_lt h, Nat.zero_add]
theorem sum1 (S W R : Nat) (h : S ≤ 64) : ((S + 256 * W) + 65536 * R) % 128 = S := by omega
theorem sum2 (a b y4 y6 : Nat) (ha : a ≤ 20000) (hb : b ≤ 20000) (h4 : y4 ≤ 135270416) (h6 : y6 ≤ 2064) : a + 65536 * (b + 65536 * (y4 + y6) + y6) < 18446744073709551616 := by omega
theorem sum3 (a b y4 y6 : Nat) (ha : a ≤ 20000) (hb : b ≤ 20000) (h4 : y4 ≤ 135270416) (h6 : y6 ≤ 2064) : (a + 65536 * b) + 4294967296 * (y4 + y6) < 18446744073709551616 := by omega
theorem sum4 (a b y4 : Nat) (ha : a ≤ 20000) (hb : b ≤ 20000) (h4 : y4 ≤ 135270416) : a + 65536 * (b + 65536 * y4) < 18446744073709551616 := by omega
theorem sum5 (s y : Nat) (hs : s ≤ 4112) (hy : y ≤ 2064) : s + 65536 * y ≤ 135270416 := by omega
/-- The bytes added up, as the library does it. -/
theorem bytes_top (s0 s2 s4 Y6 Y4 Y2 y z v S W : Nat) (b0 : s0 ≤ 4112) (b2 : s2 ≤ 4112) (b4 : s4 ≤ 4112) (b6 : Y6 ≤ 2064) (y4 : Y4 = s4 + 65536 * Y6) (y2 : Y2 = s2 + 65536 * Y4) (y0 : y = s0 + 65536 * Y2)
    (hz : z = y + y / 65536) (hv : v = z + z / 4294967296) (hS : s0 + s2 + s4 + Y6 = S + 256 * W) (h64 : S ≤ 64) : v % 128 = S ∧ v < 18446744073709551616 ∧ z < 18446744073709551616 ∧ y < 18446744073709551616 := by
  have d2 : y / 65536 = Y2 := by rw [y0]; exact dv _ _ _ (Nat.lt_of_le_of_lt b0 (by decide))
  have z0 : z = ((s0 + s2) + 65536 * (s2 + s4)) + 4294967296 * (Y4 + Y6) := by
    rw [hz, d2, y0, y2, y4]
    clear d2 hz hv hS y0 y2 y4
    omega
  have hb : Y4 ≤ 135270416 := by rw [y4]; exact sum5 _ _ b4 b6
  have d3 : z / 4294967296 = Y4 + Y6 := by
    rw [z0]
    refine dv _ _ _ ?_
    clear d2 hz hv hS y0 y2 y4 z0
    omega
  have v0 : v = (s0 + s2 + s4 + Y6) + 65536 * ((s2 + s4) + 65536 * (Y4 + Y6) + Y6) := by
    rw [hv, d3, z0]
    clear d2 d3 hz hv hS y0 y2 z0
    omega
  have a1 : s0 + s2 + s4 + Y6 ≤ 20000 := by clear hz hv hS y0 y2 y4 d2 d3 z0 v0; omega
  have a2 : s2 + s4 ≤ 20000 := by clear hz hv hS y0 y2 y4 d2 d3 z0 v0; omega
  have a3 : s0 + s2 ≤ 20000 := by clear hz hv hS y0 y2 y4 d2 d3 z0 v0; omega
  refine ⟨?_, ?_, ?_, ?_⟩
  · rw [v0, hS]; exact sum1 _ _ _ h64
  · rw [v0]; exact sum2 _ _ _ _ a1 a2 hb b6
  · rw [z0]; exact sum3 _ _ _ _ a3 a2 hb b6
  · rw [y0, y2]; exact sum4 _ _ _ (Nat.le_trans b0 (by decide)) (Nat.le_trans b2 (by decide)) hb
theorem pair4 (p q a b : Nat) (hp : p ≤ 8) (hq : q ≤ 8) (ha : a ≤ 8) (hb : b ≤ 8) : (p + q) + 256 * (a + b) ≤ 4112 := by omega
theorem bytes_sum (p0 p1 p2 p3 p4 p5 p6 p7 : Nat) (h0 : p0 ≤ 8) (h1 : p1 ≤ 8) (h2 : p2 ≤ 8) (h3 : p3 ≤ 8) (h4 : p4 ≤ 8) (h5 : p5 ≤ 8) (h6 : p6 ≤ 8) (h7 : p7 ≤ 8) (X0 X1 X2 X3 X4 X5 X6 : Nat)
    (e0 : X0 = p0 + 256 * X1) (e1 : X1 = p1 + 256 * X2) (e2 : X2 = p2 + 256 * X3) (e3 : X3 = p3 + 256 * X4) (e4 : X4 = p4 + 256 * X5) (e5 : X5 = p5 + 256 * X6) (e6 : X6 = p6 + 256 * p7) (y z v : Nat)
    (hy : y = X0 + X0 / 256) (hz : z = y + y / 65536) (hv : v = z + z / 4294967296) : v % 128 = p0 + p1 + p2 + p3 + p4 + p5 + p6 + p7 ∧ v < 18446744073709551616 ∧ z < 18446744073709551616 ∧ y < 18446744073709551616 := by
  have y6 : X6 + p7 = (p6 + p7) + 256 * p7 := by clear hy hz hv e0 e1 e2 e3 e4 e5; omega
  have y4 : X4 + X5 = ((p4 + p5) + 256 * (p5 + p6)) + 65536 * (X6 + p7) := by clear hy hz hv e0 e1 e2 e3 y6; omega
  have y2 : X2 + X3 = ((p2 + p3) + 256 * (p3 + p4)) + 65536 * (X4 + X5) := by clear hy hz hv e0 e1 e5 e6 y6 y4; omega
  have d1 : X0 / 256 = X1 := by rw [e0]; exact dv _ _ _ (Nat.lt_of_le_of_lt h0 (by decide))
  have y0 : y = ((p0 + p1) + 256 * (p1 + p2)) + 65536 * (X2 + X3) := by rw [hy, d1, e0, e1, e2]; clear hy hz hv d1 e0 e1 e2 e3 e4 e5 e6 y6 y4 y2; omega
  refine bytes_top _ _ _ _ _ _ _ _ _ _ (p1 + p2 + p3 + p4 + p5 + p6 + p7) (pair4 _ _ _ _ h0 h1 h1 h2) (pair4 _ _ _ _ h2 h3 h3 h4) (pair4 _ _ _ _ h4 h5 h5 h6) ?_ y4 y2 y0 hz hv ?_ ?_
  · rw [y6]; clear hy hz hv e0 e1 e2 e3 e4 e5 e6 y6 y4 y2 d1 y0; omega
  · rw [y6]; clear hy hz hv e0 e1 e2 e3 e4 e5 e6 y6 y4 y2 d1 y0; omega
  · clear hy hz hv e0 e1 e2 e3 e4 e5 e6 y6 y4 y2 d1 y0; omega
theorem byB (k x : Nat) : byByte (k + 1) x = p8 (x % 256) + 256 * byByte k (x / 256) := by simp only [byByte]; omega
/-- Stages in Go's own words. -/
def g1 (a : Int) : Int := IntKind.u64.wrap ((Go.bits .and .u64 (a / 2) 6148914691236517205) + (Go.bits .and .u64 a 6148914691236517205))
def g2 (a : Int) : Int := IntKind.u64.wrap ((Go.bits .and .u64 (a / 4) 3689348814741910323) + (Go.bits .and .u64 a 3689348814741910323))
def g3 (a : Int) : Int := Go.bits .and .u64 (IntKind.u64.wrap (a / 16 + a)) 1085102592571150095
def g4 (a : Int) : Int := IntKind.u64.wrap (a + a / 256)
def g5 (a : Int) : Int := IntKind.u64.wrap (a + a / 65536)
def g6 (a : Int) : Int := IntKind.u64.wrap (a + a / 4294967296)
theorem and_lt_half (x m : Nat) : (x / 2 &&& m) + (x &&& m) ≤ 2 * m := by
  have := Nat.and_le_right (n := x / 2) (m := m)
  have := Nat.and_le_right (n := x) (m := m)
  omega
theorem g1_nat (x : Nat) (h : x < 18446744073709551616) : g1 (x : Int) = ((st1 (M0 8) x : Nat) : Int) := by
  have a := u64_and_nat (x / 2) 6148914691236517205 (by omega) (by omega)
  have b := u64_and_nat x 6148914691236517205 h (by omega)
  have l1 := Nat.and_le_right (n := x / 2) (m := 6148914691236517205)
  have l2 := Nat.and_le_right (n := x) (m := 6148914691236517205)
  unfold g1 st1
  rw [M0_8, show ((x : Int) / 2) = ((x / 2 : Nat) : Int) by omega]
  rw [show (6148914691236517205 : Int) = ((6148914691236517205 : Nat) : Int) from rfl, a, b, wu64 (by omega) (by omega)]
  omega
theorem g2_nat (x : Nat) (h : x < 18446744073709551616) : g2 (x : Int) = ((st2 (M1 8) x : Nat) : Int) := by
  have a := u64_and_nat (x / 4) 3689348814741910323 (by omega) (by omega)
  have b := u64_and_nat x 3689348814741910323 h (by omega)
  have l1 := Nat.and_le_right (n := x / 4) (m := 3689348814741910323)
  have l2 := Nat.and_le_right (n := x) (m := 3689348814741910323)
  unfold g2 st2
  rw [M1_8, show ((x : Int) / 4) = ((x / 4 : Nat) : Int) by omega]
  rw [show (3689348814741910323 : Int) = ((3689348814741910323 : Nat) : Int) from rfl, a, b, wu64 (by omega) (by omega)]
  omega
theorem g3_nat (x : Nat) (h : x ≤ 8198552921648689607) : g3 (x : Int) = ((st3 (M2 8) x : Nat) : Int) := by
  have a := u64_and_nat (x / 16 + x) 1085102592571150095 (by omega) (by omega)
  unfold g3 st3
  rw [M2_8, wu64 (by omega) (by omega), show ((x : Int) / 16 + x) = ((x / 16 + x : Nat) : Int) by omega]
  rw [show (1085102592571150095 : Int) = ((1085102592571150095 : Nat) : Int) from rfl, a]
theorem tail_nat (s S : Nat) (r1 : (s + s / 256 + (s + s / 256) / 65536 + (s + s / 256 + (s + s / 256) / 65536) / 4294967296) % 128 = S) (r2 : s + s / 256 + (s + s / 256) / 65536 + (s + s / 256 + (s + s / 256) / 65536) / 4294967296 < 18446744073709551616)
    (r3 : s + s / 256 + (s + s / 256) / 65536 < 18446744073709551616) (r4 : s + s / 256 < 18446744073709551616) : Go.bits .and .i64 (wrap64 (g6 (g5 (g4 (s : Int))))) 127 = (S : Int) := by
  have e4 : g4 (s : Int) = ((s + s / 256 : Nat) : Int) := by
    unfold g4
    rw [wu64 (by omega) (by omega)]
    omega
  rw [e4]
  clear e4
  generalize s + s / 256 = y at *
  have e5 : g5 (y : Int) = ((y + y / 65536 : Nat) : Int) := by
    unfold g5
    rw [wu64 (by omega) (by omega)]
    omega
  rw [e5]
  clear e5
  generalize y + y / 65536 = z at *
  have e6 : g6 (z : Int) = ((z + z / 4294967296 : Nat) : Int) := by
    unfold g6
    rw [wu64 (by omega) (by omega)]
    omega
  rw [e6, i64_and127]
  clear e6
  generalize z + z / 4294967296 = v at *
  unfold wrap64
  omega
theorem byB1 (x : Nat) : byByte 1 x = p8 (x % 256) := by simp [byByte]
theorem sum_nat (x : Nat) : ∀ s, s = byByte 8 x → (s + s / 256 + (s + s / 256) / 65536 + (s + s / 256 + (s + s / 256) / 65536) / 4294967296) % 128 = pop 64 x ∧ s + s / 256 + (s + s / 256) / 65536 + (s + s / 256 + (s + s / 256) / 65536) / 4294967296 < 18446744073709551616 ∧
    s + s / 256 + (s + s / 256) / 65536 < 18446744073709551616 ∧ s + s / 256 < 18446744073709551616 := by
  intro s hs
  have q0 := byB 7 x
  have q1 := byB 6 (x / 256)
  have q2 := byB 5 (x / 256 / 256)
  have q3 := byB 4 (x / 256 / 256 / 256)
  have q4 := byB 3 (x / 256 / 256 / 256 / 256)
  have q5 := byB 2 (x / 256 / 256 / 256 / 256 / 256)
  have q6 := byB 1 (x / 256 / 256 / 256 / 256 / 256 / 256)
  rw [byB1] at q6
  have hp : pop 64 x = p8 (x % 256) + p8 (x / 256 % 256) + p8 (x / 256 / 256 % 256) + p8 (x / 256 / 256 / 256 % 256) + p8 (x / 256 / 256 / 256 / 256 % 256) + p8 (x / 256 / 256 / 256 / 256 / 256 % 256) + p8 (x / 256 / 256 / 256 / 256 / 256 / 256 % 256) + p8 (x / 256 / 256 / 256 / 256 / 256 / 256 / 256 % 256) := by
    simp only [p8_mod]
    rw [pop_add 8 56, pop_add 8 48, pop_add 8 40, pop_add 8 32, pop_add 8 24, pop_add 8 16, pop_add 8 8]
    simp only [pop8, Nat.reducePow]
    omega
  rw [hp]
  exact bytes_sum _ _ _ _ _ _ _ _ (p8_le _) (p8_le _) (p8_le _) (p8_le _) (p8_le _) (p8_le _) (p8_le _) (p8_le _) s _ _ _ _ _ _ (hs.trans q0) q1 q2 q3 q4 q5 q6 _ _ _ rfl rfl rfl
theorem stage_nat (x : Nat) (h : x < 18446744073709551616) : g3 (g2 (g1 (x : Int))) = ((byByte 8 x : Nat) : Int) := by
  have l1 : st1 (M0 8) x ≤ 12297829382473034410 := by
    have l1 := Nat.and_le_right (n := x / 2) (m := M0 8)
    have l2 := Nat.and_le_right (n := x) (m := M0 8)
    unfold st1
    rw [M0_8] at l1 l2 ⊢
    omega
  have l2 : st2 (M1 8) (st1 (M0 8) x) ≤ 7378697629483820646 := by
    generalize st1 (M0 8) x = a
    have l1 := Nat.and_le_right (n := a / 4) (m := M1 8)
    have l2 := Nat.and_le_right (n := a) (m := M1 8)
    unfold st2
    rw [M1_8] at l1 l2 ⊢
    omega
  rw [g1_nat x h, g2_nat _ (by omega), g3_nat _ (by omega), swar]
theorem ones_nat (x : Nat) (h : x < 18446744073709551616) : Go.bits .and .i64 (wrap64 (g6 (g5 (g4 (g3 (g2 (g1 (x : Int)))))))) 127 = ((pop 64 x : Nat) : Int) := by
  rw [stage_nat x h]
  obtain ⟨r1, r2, r3, r4⟩ := sum_nat x _ rfl
  exact tail_nat _ _ r1 r2 r3 r4
end Go.Proofs.YtnicjjnghclgpaaDoor.Lib
