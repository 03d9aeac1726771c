/- General lemmas that the pure proofs share: rounds, wraps, bits, lists. No program is in sight. -/
import Derived.Test.YtdgglnjegkmamaaDoorWWords
import Derived.Test.YtdgglnjegkmamaaDoorWMore
import Derived.Test.YtdgglnjegkmamaaDoorWLast
import Derived.Laws.BitsAllLaws
import Derived.Lib.Strings
set_option linter.unusedVariables false
set_option linter.unusedSimpArgs false
namespace Go.Proofs.YtdgglnjegkmamaaDoor.Lib
open Go.RowKit Go.Proofs.YtdgglnjegkmamaaDoorW.PrintWords Go.Proofs.YtdgglnjegkmamaaDoorW.PrintLast

/-! ### Rounds -/
theorem Ev_round {α : Type} {g : Nat → Option α} {r : α} (h : Ev (fun k => g (k + 1)) r) : Ev g r := Ev.step (fun _ => rfl) h
theorem Ev_pos {α : Type} {c : Prop} [Decidable c] {A B : Nat → Option α} {r : α} (hc : c) (h : Ev A r) : Ev (fun k => if c then A k else B k) r := Ev.congr (fun _ => if_pos hc) h
theorem Ev_neg {α : Type} {c : Prop} [Decidable c] {A B : Nat → Option α} {r : α} (hc : ¬ c) (h : Ev B r) : Ev (fun k => if c then A k else B k) r := Ev.congr (fun _ => if_neg hc) h
theorem Ev_ite {α : Type} {c : Prop} [Decidable c] {A B : Nat → Option α} {r s : α} (h : c → Ev A r) (h' : ¬ c → Ev B s) : Ev (fun k => if c then A k else B k) (if c then r else s) := by
  by_cases hc : c
  · rw [if_pos hc]; exact Ev_pos hc (h hc)
  · rw [if_neg hc]; exact Ev_neg hc (h' hc)
theorem Ev_ite' {α : Type} {c : Prop} [Decidable c] {A B : Nat → Option α} {r : α} (h : c → Ev A r) (h' : ¬ c → Ev B r) : Ev (fun k => if c then A k else B k) r := by
  by_cases hc : c
  · exact Ev_pos hc (h hc)
  · exact Ev_neg hc (h' hc)
theorem Ev_eq {α : Type} {x : Option α} {r : α} (h : x = some r) : Ev (fun _ => x) r := ⟨0, fun _ _ => h⟩
theorem Ev_bind1 {α β : Type} {x : Option α} {f : Nat → α → Option β} {a : α} {r : β} (h : x = some a) (k : Ev (fun n => f n a) r) : Ev (fun n => x.bind (f n)) r := Ev.bind (Ev_eq h) k
theorem Ev_as {α : Type} {g : Nat → Option α} {r s : α} (h : Ev g r) (e : r = s) : Ev g s := e ▸ h
theorem Ev_unique {α : Type} {g : Nat → Option α} {r s : α} (h : Ev g r) (h' : Ev g s) : r = s := by
  obtain ⟨K, h⟩ := h
  obtain ⟨K', h'⟩ := h'
  have a := h (max K K') (Nat.le_max_left _ _)
  have b := h' (max K K') (Nat.le_max_right _ _)
  rw [a] at b
  exact Option.some.inj b

/-! ### Wraps -/
theorem w64 {x : Int} (h0 : -9223372036854775808 ≤ x) (h1 : x ≤ 9223372036854775807) : wrap64 x = x := by unfold wrap64; omega
theorem wu64 {x : Int} (h0 : 0 ≤ x) (h1 : x ≤ 18446744073709551615) : IntKind.u64.wrap x = x := by rw [IntKind.wrap_u64]; omega
theorem wu32 {x : Int} (h0 : 0 ≤ x) (h1 : x ≤ 4294967295) : IntKind.u32.wrap x = x := by rw [IntKind.wrap_u32']; omega
theorem wu16 {x : Int} (h0 : 0 ≤ x) (h1 : x ≤ 65535) : IntKind.u16.wrap x = x := by rw [IntKind.wrap_u16]; omega
theorem wu8 {x : Int} (h0 : 0 ≤ x) (h1 : x ≤ 255) : IntKind.u8.wrap x = x := by rw [IntKind.wrap_u8']; omega
theorem wi8 {x : Int} (h0 : -128 ≤ x) (h1 : x ≤ 127) : IntKind.i8.wrap x = x := by
  simp only [IntKind.wrap, IntKind.bits, IntKind.signed]
  simp
  omega
theorem w64_nat (n : Nat) (h : n ≤ 9223372036854775807) : wrap64 (n : Int) = (n : Int) := w64 (by omega) (by omega)
theorem wf_u16 {x : Int} (h : (Lit.int .u16 x).wf = true) : 0 ≤ x ∧ x ≤ 65535 := by simpa [Lit.wf, IntKind.min, IntKind.max, IntKind.signed, IntKind.bits] using h
theorem wf_u8 {x : Int} (h : (Lit.int .u8 x).wf = true) : 0 ≤ x ∧ x ≤ 255 := by simpa [Lit.wf, IntKind.min, IntKind.max, IntKind.signed, IntKind.bits] using h
theorem wf_u32 {x : Int} (h : (Lit.int .u32 x).wf = true) : 0 ≤ x ∧ x ≤ 4294967295 := by simpa [Lit.wf, IntKind.min, IntKind.max, IntKind.signed, IntKind.bits] using h
theorem wf_u64 {x : Int} (h : (Lit.int .u64 x).wf = true) : 0 ≤ x ∧ x ≤ 18446744073709551615 := by simpa [Lit.wf, IntKind.min, IntKind.max, IntKind.signed, IntKind.bits] using h
theorem wf_i8 {x : Int} (h : (Lit.int .i8 x).wf = true) : -128 ≤ x ∧ x ≤ 127 := by simpa [Lit.wf, IntKind.min, IntKind.max, IntKind.signed, IntKind.bits] using h
theorem wf_i64 {x : Int} (h : (Lit.int .i64 x).wf = true) : -9223372036854775808 ≤ x ∧ x ≤ 9223372036854775807 := by simpa [Lit.wf, IntKind.min, IntKind.max, IntKind.signed, IntKind.bits] using h

/-! ### Lists -/
theorem rd_nat {xs : List Int} {n : Nat} (h : n < xs.length) : rd xs (n : Int) = xs[n] := by simp [rd, List.getD_eq_getElem?_getD, List.getElem?_eq_getElem h]
theorem rd_int {xs : List Int} {i : Int} (h0 : 0 ≤ i) (h : i < xs.length) : rd xs i = xs[i.toNat]'(by omega) := by simp [rd, List.getD_eq_getElem?_getD, List.getElem?_eq_getElem (show i.toNat < xs.length by omega)]
theorem rd_mem {xs : List Int} {i : Int} (h0 : 0 ≤ i) (h : i < xs.length) : rd xs i ∈ xs := by rw [rd_int h0 h]; exact List.getElem_mem _

/-- A copy made cell by cell. -/
theorem copy_loop {L : Nat → List Int → List Int → Int → Option (List Int)}
    (hL : ∀ k x0 x3 x4, L (k + 1) x0 x3 x4 = if x4 < (x0.length : Int) then (if 0 ≤ x4 then (if x4 < (x3.length : Int) then L k x0 (x3.set (x4 : Int).toNat (rd x0 x4)) (wrap64 (x4 + 1)) else none) else none) else some x3)
    (xs : List Int) (hn : xs.length ≤ 9223372036854775806) :
    ∀ (d n : Nat) (ys : List Int), n + d = xs.length → ys.length = xs.length → ys.take n = xs.take n → Ev (fun k => L k xs ys (n : Int)) xs := by
  intro d
  induction d with
  | zero =>
    intro n ys h1 h2 h3
    refine Ev_round (Ev.congr (fun k => hL k xs ys n) (Ev_neg (by omega) (Ev_as (Ev.now _) ?_)))
    rw [List.take_of_length_le (by omega), List.take_of_length_le (by omega)] at h3
    exact h3
  | succ d ih =>
    intro n ys h1 h2 h3
    refine Ev_round (Ev.congr (fun k => hL k xs ys n) (Ev_pos (by omega) (Ev_pos (by omega) (Ev_pos (by omega) ?_))))
    rw [w64 (by omega) (by omega), Int.toNat_natCast, rd_nat (by omega)]
    have h := ih (n + 1) (ys.set n (xs[n]'(by omega))) (by omega) (by simpa using h2) ?_
    · simpa using h
    · apply List.ext_getElem?
      intro i
      have hi := congrArg (fun l => l[i]?) h3
      simp only [List.getElem?_take, List.getElem?_set] at hi ⊢
      by_cases e : n = i
      · subst e
        rw [if_pos (by omega), if_pos rfl, if_pos (by omega), if_pos (by omega), List.getElem?_eq_getElem (by omega)]
      · rw [if_neg e]
        by_cases h5 : i < n
        · rw [if_pos h5, if_pos h5] at hi
          rw [if_pos (by omega), if_pos (by omega)]
          exact hi
        · rw [if_neg (by omega), if_neg (by omega)]
theorem copy_any {L : Nat → List Int → List Int → Int → Option (List Int)} (M : Nat)
    (hL : ∀ k x0 x3 x4, L (k + 1) x0 x3 x4 = if x4 < (x0.length : Int) then (if 0 ≤ x4 then (if x4 < (x3.length : Int) then L k x0 (x3.set (x4 : Int).toNat (rd x0 x4)) (wrap64 (x4 + 1)) else none) else none) else some x3)
    (xs : List Int) (hn : xs.length ≤ M) (hM : xs.length ≤ 9223372036854775806) :
    Ev (fun k => if 0 ≤ (xs.length : Int) then (if ((xs.length : Int) : Int).toNat ≤ M then L k xs (List.replicate ((xs.length : Int) : Int).toNat 0) 0 else none) else none) xs :=
  Ev_pos (by omega) (Ev_pos (by omega) (copy_loop hL xs hM xs.length 0 _ (by omega) (by simp) (by simp)))
theorem copy_all {L : Nat → List Int → List Int → Int → Option (List Int)}
    (hL : ∀ k x0 x3 x4, L (k + 1) x0 x3 x4 = if x4 < (x0.length : Int) then (if 0 ≤ x4 then (if x4 < (x3.length : Int) then L k x0 (x3.set (x4 : Int).toNat (rd x0 x4)) (wrap64 (x4 + 1)) else none) else none) else some x3)
    (xs : List Int) (hn : xs.length ≤ 140737488355328) :
    Ev (fun k => if 0 ≤ (xs.length : Int) then (if ((xs.length : Int) : Int).toNat ≤ 140737488355328 then L k xs (List.replicate ((xs.length : Int) : Int).toNat 0) 0 else none) else none) xs :=
  Ev_pos (by omega) (Ev_pos (by omega) (copy_loop hL xs (by omega) xs.length 0 _ (by omega) (by simp) (by simp)))

/-- Two lists held against each other. -/
theorem eq_loop {L : Nat → List Int → List Int → Int → Option Bool}
    (hL : ∀ k x0 x1 x5, L (k + 1) x0 x1 x5 = if x5 < (x0.length : Int) then (if 0 ≤ x5 then (if x5 < (x1.length : Int) then (if (rd x0 x5) = (rd x1 x5) then L k x0 x1 (wrap64 (x5 + 1)) else some false) else none) else none) else some true)
    (xs ys : List Int) (hn : xs.length ≤ 9223372036854775806) (hl : xs.length = ys.length) :
    ∀ (d n : Nat), n + d = xs.length → xs.take n = ys.take n → Ev (fun k => L k xs ys (n : Int)) (decide (xs = ys)) := by
  intro d
  induction d with
  | zero =>
    intro n h1 h3
    refine Ev_round (Ev.congr (fun k => hL k xs ys n) (Ev_neg (by omega) (Ev_as (Ev.now _) ?_)))
    rw [List.take_of_length_le (by omega), List.take_of_length_le (by omega)] at h3
    simp [h3]
  | succ d ih =>
    intro n h1 h3
    refine Ev_round (Ev.congr (fun k => hL k xs ys n) (Ev_pos (by omega) (Ev_pos (by omega) (Ev_pos (by omega) ?_))))
    by_cases e : rd xs (n : Int) = rd ys (n : Int)
    · refine Ev_pos e ?_
      rw [w64 (by omega) (by omega)]
      have h := ih (n + 1) (by omega) ?_
      · simpa using h
      · rw [rd_nat (by omega), rd_nat (by omega)] at e
        rw [List.take_succ_eq_append_getElem (by omega), List.take_succ_eq_append_getElem (by omega), h3, e]
    · refine Ev_neg e (Ev_as (Ev.now _) ?_)
      have : xs ≠ ys := fun h => e (by rw [h])
      simp [this]
theorem eq_all {L : Nat → List Int → List Int → Int → Option Bool}
    (hL : ∀ k x0 x1 x5, L (k + 1) x0 x1 x5 = if x5 < (x0.length : Int) then (if 0 ≤ x5 then (if x5 < (x1.length : Int) then (if (rd x0 x5) = (rd x1 x5) then L k x0 x1 (wrap64 (x5 + 1)) else some false) else none) else none) else some true)
    (xs ys : List Int) (hn : xs.length ≤ 9223372036854775806) :
    Ev (fun k => if (xs.length : Int) = (ys.length : Int) then L k xs ys 0 else some false) (decide (xs = ys)) := by
  by_cases h : xs.length = ys.length
  · exact Ev_pos (by omega) (eq_loop hL xs ys hn h xs.length 0 (by omega) (by simp))
  · refine Ev_neg (by omega) (Ev_as (Ev.now _) ?_)
    have : xs ≠ ys := fun e => h (by rw [e])
    simp [this]

/-! ### Loops over a list -/
/-- A loop that goes through a list and bears a state. -/
theorem fold_loop {σ ρ α : Type} {L : Nat → σ → Int → Option ρ} {f : σ → α → σ} {fin : σ → ρ} (xs : List α) (I : Nat → σ → Prop)
    (hstep : ∀ k s (n : Nat) (h : n < xs.length), I n s → L (k + 1) s (n : Int) = L k (f s xs[n]) ((n + 1 : Nat) : Int))
    (hI : ∀ s (n : Nat) (h : n < xs.length), I n s → I (n + 1) (f s xs[n]))
    (hend : ∀ k s, I xs.length s → L (k + 1) s (xs.length : Int) = some (fin s)) :
    ∀ (d n : Nat) (s : σ), n + d = xs.length → I n s → Ev (fun k => L k s (n : Int)) (fin ((xs.drop n).foldl f s)) := by
  intro d
  induction d with
  | zero =>
    intro n s h1 h2
    obtain rfl : n = xs.length := by omega
    rw [List.drop_length]
    exact Ev_round (Ev.congr (fun k => hend k s h2) (Ev.now _))
  | succ d ih =>
    intro n s h1 h2
    have hn : n < xs.length := by omega
    rw [List.drop_eq_getElem_cons hn, List.foldl_cons]
    exact Ev_round (Ev.congr (fun k => hstep k s n hn h2) (ih (n + 1) _ (by omega) (hI s n hn h2)))
/-- What a search through a list finds. -/
def findR {ρ α : Type} (g : Nat → α → Option ρ) (dflt : ρ) : List α → Nat → ρ
  | [], _ => dflt
  | x :: t, n => match g n x with
    | some r => r
    | none => findR g dflt t (n + 1)
theorem find_loop {ρ α : Type} {L : Nat → Int → Option ρ} (xs : List α) (g : Nat → α → Option ρ) (dflt : ρ)
    (hstep : ∀ k (n : Nat) (h : n < xs.length), L (k + 1) (n : Int) = match g n xs[n] with
      | some r => some r
      | none => L k ((n + 1 : Nat) : Int))
    (hend : ∀ k, L (k + 1) (xs.length : Int) = some dflt) :
    ∀ (d n : Nat), n + d = xs.length → Ev (fun k => L k (n : Int)) (findR g dflt (xs.drop n) n) := by
  intro d
  induction d with
  | zero =>
    intro n h1
    obtain rfl : n = xs.length := by omega
    rw [List.drop_length]
    exact Ev_round (Ev.congr (fun k => hend k) (Ev.now _))
  | succ d ih =>
    intro n h1
    have hn : n < xs.length := by omega
    rw [List.drop_eq_getElem_cons hn]
    refine Ev_round (Ev.congr (fun k => hstep k n hn) ?_)
    unfold findR
    cases g n xs[n] with
    | some r => exact Ev.now _
    | none => exact ih (n + 1) (by omega)

/-- Two lists held against each other, cell by cell. -/
theorem eq_gen {ρ α : Type} [DecidableEq α] {L : Nat → Int → Option ρ} (fin : Bool → ρ) (off : Int) (xs ys : List α) (hl : xs.length = ys.length)
    (hstep : ∀ k (n : Nat) (h : n < xs.length), L (k + 1) (off + (n : Int)) = if xs[n] = ys[n]'(by omega) then L k (off + ((n + 1 : Nat) : Int)) else some (fin false))
    (hend : ∀ k, L (k + 1) (off + (xs.length : Int)) = some (fin true)) :
    ∀ (d n : Nat), n + d = xs.length → xs.take n = ys.take n → Ev (fun k => L k (off + (n : Int))) (fin (decide (xs = ys))) := by
  intro d
  induction d with
  | zero =>
    intro n h1 h3
    obtain rfl : n = xs.length := by omega
    refine Ev_round (Ev.congr (fun k => hend k) (Ev_as (Ev.now _) ?_))
    rw [List.take_of_length_le (by omega), List.take_of_length_le (by omega)] at h3
    simp [h3]
  | succ d ih =>
    intro n h1 h3
    have hn : n < xs.length := by omega
    refine Ev_round (Ev.congr (fun k => hstep k n hn) ?_)
    by_cases e : xs[n] = ys[n]'(by omega)
    · refine Ev_pos e (ih (n + 1) (by omega) ?_)
      rw [List.take_succ_eq_append_getElem (by omega), List.take_succ_eq_append_getElem (by omega), h3, e]
    · refine Ev_neg e (Ev_as (Ev.now _) ?_)
      have : xs ≠ ys := fun h => e (by subst h; rfl)
      simp [this]

/-! ### Marks -/
/-- Numbers that rise from one on, as a kind holds them. -/
def markG (K : IntKind) (a : Int) (n : Nat) : List Int := (List.range n).map fun i : Nat => K.wrap (a + (i : Int))
theorem markG_length (K : IntKind) (a : Int) (n : Nat) : (markG K a n).length = n := by simp [markG]
theorem markG_get (K : IntKind) (a : Int) (n i : Nat) (h : i < (markG K a n).length) : (markG K a n)[i] = K.wrap (a + (i : Int)) := by simp [markG]
theorem mark_loop {L : Nat → List Int → Int → Int → Option (Int × List Int)} {K : IntKind}
    (hL : ∀ k x0 x1 x5, L (k + 1) x0 x1 x5 = if x5 < (x0.length : Int) then (if 0 ≤ x5 then L k (x0.set (x5 : Int).toNat (K.wrap x1)) (wrap64 (x1 + 1)) (wrap64 (x5 + 1)) else none) else some (x1, x0))
    (a : Int) (N : Nat) (ha : 0 ≤ a) (hb : a + N ≤ 9223372036854775806) :
    ∀ (d n : Nat) (ys : List Int), n + d = N → ys.length = N → ys.take n = (markG K a N).take n → Ev (fun k => L k ys (a + (n : Int)) (n : Int)) (a + (N : Int), markG K a N) := by
  intro d
  induction d with
  | zero =>
    intro n ys h1 h2 h3
    refine Ev_round (Ev.congr (fun k => hL k ys _ n) (Ev_neg (by omega) (Ev_as (Ev.now _) ?_)))
    rw [List.take_of_length_le (by omega), List.take_of_length_le (by rw [markG_length]; omega)] at h3
    obtain rfl : n = N := by omega
    rw [h3]
  | succ d ih =>
    intro n ys h1 h2 h3
    refine Ev_round (Ev.congr (fun k => hL k ys _ n) (Ev_pos (by omega) (Ev_pos (by omega) ?_)))
    rw [w64 (by omega) (by omega), w64 (by omega) (by omega), Int.toNat_natCast]
    have h := ih (n + 1) (ys.set n (K.wrap (a + (n : Int)))) (by omega) (by simpa using h2) ?_
    · have e : a + (n : Int) + 1 = a + ((n + 1 : Nat) : Int) := by omega
      rw [e]
      exact h
    · rw [List.take_succ_eq_append_getElem (by simp; omega), List.take_succ_eq_append_getElem (by rw [markG_length]; omega), markG_get, List.take_set_of_le (by omega), h3]
      simp
theorem held_loop {L : Nat → List Int → Int → Int → Option Int} {K : IntKind}
    (hL : ∀ k x0 x1 x5, L (k + 1) x0 x1 x5 = if x5 < (x0.length : Int) then (if 0 ≤ x5 then (if (rd x0 x5) = (K.wrap x1) then L k x0 (wrap64 (x1 + 1)) (wrap64 (x5 + 1)) else some (-1)) else none) else some x1)
    (a : Int) (N : Nat) (ha : 0 ≤ a) (hb : a + N ≤ 9223372036854775806) :
    ∀ (d n : Nat), n + d = N → Ev (fun k => L k (markG K a N) (a + (n : Int)) (n : Int)) (a + (N : Int)) := by
  intro d
  induction d with
  | zero =>
    intro n h1
    refine Ev_round (Ev.congr (fun k => hL k _ _ n) (Ev_neg (by rw [markG_length]; omega) (Ev_as (Ev.now _) (by omega))))
  | succ d ih =>
    intro n h1
    refine Ev_round (Ev.congr (fun k => hL k _ _ n) (Ev_pos (by rw [markG_length]; omega) (Ev_pos (by omega) (Ev_pos ?_ ?_))))
    · rw [rd_nat (by rw [markG_length]; omega), markG_get]
    · rw [w64 (by omega) (by omega), w64 (by omega) (by omega)]
      have e : a + (n : Int) + 1 = a + ((n + 1 : Nat) : Int) := by omega
      rw [e]
      exact ih (n + 1) (by omega)

/-! ### Bits -/
/-- The sum of two nimbers. -/
def X (a b : Int) : Int := Go.bits .xor .u16 a b
theorem X_nat {a b : Int} (ha : 0 ≤ a ∧ a ≤ 65535) (hb : 0 ≤ b ∧ b ≤ 65535) : X a b = ((a.toNat ^^^ b.toNat : Nat) : Int) := u16_xor a b ha.1 (by omega) hb.1 (by omega)
theorem X_range {a b : Int} (ha : 0 ≤ a ∧ a ≤ 65535) (hb : 0 ≤ b ∧ b ≤ 65535) : 0 ≤ X a b ∧ X a b ≤ 65535 := by
  rw [X_nat ha hb]
  have := Nat.xor_lt_two_pow (x := a.toNat) (y := b.toNat) (n := 16) (by omega) (by omega)
  omega
theorem and1_u32 {x : Int} (h0 : 0 ≤ x) (h1 : x ≤ 4294967295) : Go.bits .and .u32 x 1 = x % 2 := by
  rw [u32_and x 1 h0 (by omega) (by omega) (by omega)]
  have : (1 : Int).toNat = 1 := rfl
  rw [this, nat_mask1]
  omega
theorem and1_u64 {x : Int} (h0 : 0 ≤ x) (h1 : x ≤ 18446744073709551615) : Go.bits .and .u64 x 1 = x % 2 := by
  rw [u64_and x 1 h0 (by omega) (by omega) (by omega)]
  have : (1 : Int).toNat = 1 := rfl
  rw [this, nat_mask1]
  omega
theorem shr_u32 {x i : Int} (hi : 0 ≤ i) (h : i ≤ 32) : shr .u32 x i = x / ((2 ^ i.toNat : Nat) : Int) := by
  unfold shr
  rw [Nat.min_eq_left (by simp [IntKind.bits]; omega)]
  simp
theorem shr_range {k : IntKind} {x i : Int} (hx : 0 ≤ x) : 0 ≤ shr k x i ∧ shr k x i ≤ x := by
  unfold shr
  have hp : (0 : Int) < 2 ^ min i.toNat k.bits := by exact_mod_cast Nat.two_pow_pos _
  exact ⟨Int.ediv_nonneg hx (Int.le_of_lt hp), Int.ediv_le_self _ hx⟩
theorem bit_u32 (A i : Nat) (hA : A ≤ 4294967295) (hi : i ≤ 31) : Go.bits .and .u32 (shr .u32 (A : Int) (i : Int)) 1 = if A.testBit i then 1 else 0 := by
  have hr := shr_range (k := .u32) (x := (A : Int)) (i := (i : Int)) (by omega)
  rw [and1_u32 hr.1 (by omega), shr_u32 (by omega) (by omega), Nat.testBit_eq_decide_div_mod_eq]
  have : ((A : Int) / ((2 ^ (i : Int).toNat : Nat) : Int)) = ((A / 2 ^ i : Nat) : Int) := by simp
  rw [this]
  generalize A / 2 ^ i = q at *
  by_cases h : q % 2 = 1
  · rw [if_pos (decide_eq_true h)]; omega
  · rw [if_neg (by simp [h])]; omega
theorem shr_u64 {x i : Int} (hi : 0 ≤ i) (h : i ≤ 64) : shr .u64 x i = x / ((2 ^ i.toNat : Nat) : Int) := by
  unfold shr
  rw [Nat.min_eq_left (by simp [IntKind.bits]; omega)]
  simp
theorem bit_u64 (A i : Nat) (hA : A ≤ 18446744073709551615) (hi : i ≤ 63) : Go.bits .and .u64 (shr .u64 (A : Int) (i : Int)) 1 = if A.testBit i then 1 else 0 := by
  have hr := shr_range (k := .u64) (x := (A : Int)) (i := (i : Int)) (by omega)
  rw [and1_u64 hr.1 (by omega), shr_u64 (by omega) (by omega), Nat.testBit_eq_decide_div_mod_eq]
  have : ((A : Int) / ((2 ^ (i : Int).toNat : Nat) : Int)) = ((A / 2 ^ i : Nat) : Int) := by simp
  rw [this]
  generalize A / 2 ^ i = q at *
  by_cases h : q % 2 = 1
  · rw [if_pos (decide_eq_true h)]; omega
  · rw [if_neg (by simp [h])]; omega
theorem shl_u64 (A i : Nat) (hi : i ≤ 64) (h : A * 2 ^ i ≤ 18446744073709551615) : shl .u64 (A : Int) (i : Int) = ((A * 2 ^ i : Nat) : Int) := by
  unfold shl
  rw [Nat.min_eq_left (by simp [IntKind.bits]; omega), Int.toNat_natCast]
  have : (A : Int) * 2 ^ i = ((A * 2 ^ i : Nat) : Int) := by simp
  rw [this, wu64 (by omega) (by omega)]
theorem shl_u32 (A i : Nat) (hi : i ≤ 32) (h : A * 2 ^ i ≤ 4294967295) : shl .u32 (A : Int) (i : Int) = ((A * 2 ^ i : Nat) : Int) := by
  unfold shl
  rw [Nat.min_eq_left (by simp [IntKind.bits]; omega), Int.toNat_natCast]
  have : (A : Int) * 2 ^ i = ((A * 2 ^ i : Nat) : Int) := by simp
  rw [this, wu32 (by omega) (by omega)]
theorem lt_of_bit {x y : Nat} (i : Nat) (hx : x.testBit i = false) (hy : y.testBit i = true) (h : ∀ j, i < j → x.testBit j = y.testBit j) : x < y := by
  have e : x / 2 ^ (i + 1) = y / 2 ^ (i + 1) := by
    apply Nat.eq_of_testBit_eq
    intro j
    rw [Nat.testBit_div_two_pow, Nat.testBit_div_two_pow]
    exact h _ (by omega)
  rw [Nat.testBit_eq_decide_div_mod_eq] at hx hy
  have hx' := of_decide_eq_false hx
  have hy' := of_decide_eq_true hy
  rw [Nat.pow_succ, ← Nat.div_div_eq_div_mul, ← Nat.div_div_eq_div_mul] at e
  apply Nat.lt_of_not_le
  intro c
  have := Nat.div_le_div_right (c := 2 ^ i) c
  omega
/-- Whatever is less than a sum is met by making one of the two less. -/
theorem nim_less (a b c : Nat) (h : c < a ^^^ b) : (∃ a', a' < a ∧ a' ^^^ b = c) ∨ (∃ b', b' < b ∧ a ^^^ b' = c) := by
  have hd : c ^^^ (a ^^^ b) ≠ 0 := by
    intro e
    have : c = a ^^^ b := by
      have h2 := congrArg (fun x => x ^^^ (a ^^^ b)) e
      simpa [Nat.xor_assoc] using h2
    omega
  generalize hdd : c ^^^ (a ^^^ b) = d at hd
  have hab : d ^^^ (a ^^^ b) = c := by rw [← hdd, Nat.xor_assoc, Nat.xor_self, Nat.xor_zero]
  have htop : ∀ j, d.log2 < j → d.testBit j = false := fun j hj => Nat.testBit_lt_two_pow (Nat.lt_of_lt_of_le Nat.lt_log2_self (Nat.pow_le_pow_right (by omega) hj))
  have hset : d.testBit d.log2 = true := Nat.testBit_log2 hd
  have hbit : (a ^^^ b).testBit d.log2 = true := by
    cases hx : (a ^^^ b).testBit d.log2 with
    | true => rfl
    | false =>
      exfalso
      have hc : c.testBit d.log2 = true := by rw [← hab, Nat.testBit_xor, hset, hx]; rfl
      have := lt_of_bit d.log2 hx hc (fun j hj => by rw [← hab, Nat.testBit_xor d, htop j hj]; simp)
      omega
  have less : ∀ x, x.testBit d.log2 = true → x ^^^ d < x := fun x hx =>
    lt_of_bit d.log2 (by rw [Nat.testBit_xor, hx, hset]; rfl) hx (fun j hj => by rw [Nat.testBit_xor, htop j hj]; simp)
  rw [Nat.testBit_xor] at hbit
  cases hA : a.testBit d.log2 with
  | true => exact .inl ⟨a ^^^ d, less a hA, by rw [← hab, Nat.xor_comm a d, Nat.xor_assoc]⟩
  | false =>
    rw [hA] at hbit
    exact .inr ⟨b ^^^ d, less b (by simpa using hbit), by rw [← hab, ← Nat.xor_assoc, Nat.xor_comm (a ^^^ b) d]⟩

end Go.Proofs.YtdgglnjegkmamaaDoor.Lib
