/- Sums of heaps: behind a move that wins the sum is 0, and there is one if, and only if, it is not 0; what a period says goes on. No program is in sight. -/
import Derived.Test.YteinllalhiflcaaLib3
set_option linter.unusedVariables false
set_option linter.unusedSimpArgs false
namespace Go.Proofs.Yteinllalhiflcaa.Lib
open Go.RowKit Go.Proofs.YteinllalhiflcaaW.PrintWords Go.Proofs.YteinllalhiflcaaW.PrintLast

/-! ### Values of heaps -/
/-- The value of a heap. -/
def tvN (t h : Nat) : Nat := mexN (takeTo t (TV t h) h (min h 63))
theorem TV_succ (t n : Nat) : TV t (n + 1) = TV t n ++ [((tvN t n : Nat) : Int)] := rfl
theorem TV_rd (t : Nat) : ∀ (d n : Nat), n < d → rd (TV t d) (n : Int) = ((tvN t n : Nat) : Int) := by
  intro d
  induction d with
  | zero => intro n h; omega
  | succ d ih =>
    intro n h
    rw [TV_succ]
    by_cases e : n = d
    · subst e
      rw [rd_nat (by simp [TV_len])]
      simp [List.getElem_append, TV_len]
    · rw [rd_nat (by simp [TV_len]; omega), List.getElem_append_left (by rw [TV_len]; omega), ← rd_nat]
      exact ih n (by omega)
theorem takeTo_mem (t : Nat) (out : List Int) (h n : Nat) (x : Int) : x ∈ takeTo t out h n ↔ ∃ m, 1 ≤ m ∧ m ≤ n ∧ t.testBit m = true ∧ x = rd out ((h - m : Nat) : Int) := by
  unfold takeTo
  simp only [List.mem_map, List.mem_filter, List.mem_range'_1]
  constructor
  · rintro ⟨m, ⟨⟨h1, h2⟩, h3⟩, rfl⟩
    exact ⟨m, h1, by omega, h3, rfl⟩
  · rintro ⟨m, h1, h2, h3, rfl⟩
    exact ⟨m, ⟨⟨h1, by omega⟩, h3⟩, rfl⟩
theorem tv_mem (t h : Nat) (x : Int) : x ∈ takeTo t (TV t h) h (min h 63) ↔ ∃ l, l < h ∧ h - l ≤ 63 ∧ t.testBit (h - l) = true ∧ x = ((tvN t l : Nat) : Int) := by
  rw [takeTo_mem]
  constructor
  · rintro ⟨m, h1, h2, h3, rfl⟩
    refine ⟨h - m, by omega, by omega, ?_, TV_rd t h (h - m) (by omega)⟩
    rw [show h - (h - m) = m by omega]
    exact h3
  · rintro ⟨l, h1, h2, h3, rfl⟩
    refine ⟨h - l, by omega, by omega, h3, ?_⟩
    rw [show h - (h - l) = l by omega]
    exact (TV_rd t h l h1).symm
/-- No move keeps a heap's value. -/
theorem tv_ne (t h l : Nat) (h1 : l < h) (h2 : h - l ≤ 63) (h3 : t.testBit (h - l) = true) : tvN t l ≠ tvN t h := by
  intro e
  have := (mexN_is (takeTo t (TV t h) h (min h 63))).1
  exact this ((tv_mem t h _).2 ⟨l, h1, h2, h3, by rw [e]; rfl⟩)
/-- Each lesser value is met by a move. -/
theorem tv_ex (t h c : Nat) (hc : c < tvN t h) : ∃ l, l < h ∧ h - l ≤ 63 ∧ t.testBit (h - l) = true ∧ tvN t l = c := by
  have := (mexN_is (takeTo t (TV t h) h (min h 63))).2 c hc
  obtain ⟨l, h1, h2, h3, h4⟩ := (tv_mem t h _).1 this
  exact ⟨l, h1, h2, h3, by omega⟩
theorem tv_le (t h : Nat) : tvN t h ≤ 63 := by
  have h1 := mexN_le (takeTo t (TV t h) h (min h 63))
  have h2 := takeTo_len t (TV t h) h (min h 63)
  unfold tvN
  omega
/-- What a period says goes on. -/
theorem tv_period (t m s p : Nat) (hm : m ≤ 63) (hb : ∀ q, m < q → t.testBit q = false) (hp : ∀ j, j < m → tvN t (s + j) = tvN t (s + p + j)) : ∀ (d n : Nat), n < d → s ≤ n → tvN t n = tvN t (n + p) := by
  intro d
  induction d with
  | zero => intro n h; omega
  | succ d ih =>
    intro n hn hs
    by_cases c : n < s + m
    · have := hp (n - s) (by omega)
      rw [show s + (n - s) = n by omega, show s + p + (n - s) = n + p by omega] at this
      exact this
    · have hle : ∀ q, t.testBit q = true → q ≤ m := fun q hq => by
        apply Nat.le_of_not_lt
        intro hlt
        rw [hb q hlt] at hq
        cases hq
      unfold tvN
      refine mexN_congr (fun x => ?_)
      rw [tv_mem, tv_mem]
      constructor
      · rintro ⟨l, h1, h2, h3, rfl⟩
        have h4 := hle _ h3
        refine ⟨l + p, by omega, by omega, ?_, ?_⟩
        · rw [show n + p - (l + p) = n - l by omega]; exact h3
        · rw [ih l (by omega) (by omega)]
      · rintro ⟨l, h1, h2, h3, rfl⟩
        have h4 := hle _ h3
        refine ⟨l - p, by omega, by omega, ?_, ?_⟩
        · rw [show n - (l - p) = n + p - l by omega]; exact h3
        · rw [ih (l - p) (by omega) (by omega), show l - p + p = l by omega]

/-! ### Sums -/
/-- The sum of some values. -/
def nsum (vs : List Nat) : Nat := vs.foldr (fun a b => a ^^^ b) 0
theorem xor_rot (a b c : Nat) : a ^^^ b ^^^ (a ^^^ c) = b ^^^ c := by
  rw [Nat.xor_comm a b, Nat.xor_assoc, ← Nat.xor_assoc a a c, Nat.xor_self, Nat.zero_xor]
/-- Whatever is less than a sum is met by making one of the values less. -/
theorem nim_list : ∀ (vs : List Nat) (c : Nat), c < nsum vs → ∃ (i : Nat) (h : i < vs.length) (a : Nat), a < vs[i] ∧ (nsum vs ^^^ vs[i]) ^^^ a = c := by
  intro vs
  induction vs with
  | nil => intro c h; simp [nsum] at h
  | cons v t ih =>
    intro c h
    have e : nsum (v :: t) = v ^^^ nsum t := rfl
    rw [e] at h ⊢
    rcases nim_less v (nsum t) c h with ⟨a, h1, h2⟩ | ⟨b, h1, h2⟩
    · refine ⟨0, by simp, a, by simpa using h1, ?_⟩
      simp only [List.getElem_cons_zero]
      rw [Nat.xor_comm v (nsum t), Nat.xor_assoc (nsum t) v v, Nat.xor_self, Nat.xor_zero, Nat.xor_comm]
      exact h2
    · obtain ⟨i, hi, a, h3, h4⟩ := ih b h1
      refine ⟨i + 1, by simpa using hi, a, by simpa using h3, ?_⟩
      simp only [List.getElem_cons_succ]
      rw [Nat.xor_assoc v, Nat.xor_assoc v, h4]
      exact h2
theorem nsum_lt : ∀ (vs : List Nat), (∀ v ∈ vs, v < 65536) → nsum vs < 65536 := by
  intro vs
  induction vs with
  | nil => intro _; simp [nsum]
  | cons v t ih =>
    intro h
    have h1 := h v (by simp)
    have h2 := ih (fun x hx => h x (by simp [hx]))
    show v ^^^ nsum t < 65536
    exact Nat.xor_lt_two_pow (n := 16) (x := v) (y := nsum t) h1 h2
theorem X_cast (a b : Nat) (ha : a < 65536) (hb : b < 65536) : X (a : Int) (b : Int) = ((a ^^^ b : Nat) : Int) := by
  rw [X_nat ⟨by omega, by omega⟩ ⟨by omega, by omega⟩]
  rfl
theorem foldX : ∀ (vs : List Nat) (s : Nat), s < 65536 → (∀ v ∈ vs, v < 65536) → (vs.map fun (v : Nat) => (v : Int)).foldl X (s : Int) = ((s ^^^ nsum vs : Nat) : Int) := by
  intro vs
  induction vs with
  | nil => intro s _ _; simp [nsum]
  | cons v t ih =>
    intro s hs h
    have h1 := h v (by simp)
    rw [List.map_cons, List.foldl_cons, X_cast s v hs h1, ih (s ^^^ v) (Nat.xor_lt_two_pow (n := 16) hs h1) (fun x hx => h x (by simp [hx])), Nat.xor_assoc]
    rfl
end Go.Proofs.Yteinllalhiflcaa.Lib
