/- The least number that is not in a list, and the values of games. No program is in sight. -/
import Derived.Test.YtdgglnjegkmamaaDoorLib
set_option linter.unusedVariables false
set_option linter.unusedSimpArgs false
namespace Go.Proofs.YtdgglnjegkmamaaDoor.Lib
open Go.RowKit Go.Proofs.YtdgglnjegkmamaaDoorW.PrintWords Go.Proofs.YtdgglnjegkmamaaDoorW.PrintLast

/-! ### The least number that is not in a list -/
def IsMex (l : List Int) (n : Nat) : Prop := (n : Int) ∉ l ∧ ∀ m, m < n → (m : Int) ∈ l
theorem IsMex.unique {l : List Int} {n m : Nat} (h : IsMex l n) (h' : IsMex l m) : n = m := by
  rcases Nat.lt_trichotomy n m with c | c | c
  · exact absurd (h'.2 n c) h.1
  · exact c
  · exact absurd (h.2 m c) h'.1
theorem pigeon : ∀ (n : Nat) (l : List Int), (∀ m, m < n → (m : Int) ∈ l) → n ≤ l.length := by
  intro n
  induction n with
  | zero => intro l _; omega
  | succ n ih =>
    intro l h
    have hn := h n (by omega)
    have h2 := ih (l.erase (n : Int)) (fun m hm => (List.mem_erase_of_ne (by omega)).2 (h m (by omega)))
    rw [List.length_erase_of_mem hn] at h2
    have := List.length_pos_of_mem hn
    omega
theorem IsMex.le {l : List Int} {n : Nat} (h : IsMex l n) : n ≤ l.length := pigeon n l h.2
def mexFrom (l : List Int) : Nat → Nat → Nat
  | 0, n => n
  | d + 1, n => if (n : Int) ∈ l then mexFrom l d (n + 1) else n
theorem mexFrom_is (l : List Int) : ∀ (d n : Nat), (∀ m, m < n → (m : Int) ∈ l) → l.length < d + n → IsMex l (mexFrom l d n) := by
  intro d
  induction d with
  | zero =>
    intro n h hl
    have := pigeon n l h
    omega
  | succ d ih =>
    intro n h hl
    unfold mexFrom
    by_cases c : (n : Int) ∈ l
    · rw [if_pos c]
      refine ih (n + 1) (fun m hm => ?_) (by omega)
      by_cases e : m = n
      · rw [e]; exact c
      · exact h m (by omega)
    · rw [if_neg c]
      exact ⟨c, h⟩
/-- The least number, from 0 on, that is not in a list. -/
def mexN (l : List Int) : Nat := mexFrom l (l.length + 1) 0
theorem mexN_is (l : List Int) : IsMex l (mexN l) := mexFrom_is l _ 0 (fun m hm => by omega) (by omega)
theorem mexN_le (l : List Int) : mexN l ≤ l.length := (mexN_is l).le
theorem mexN_eq {l : List Int} {n : Nat} (h : IsMex l n) : mexN l = n := (mexN_is l).unique h
theorem mexN_congr {l l' : List Int} (h : ∀ x, x ∈ l ↔ x ∈ l') : mexN l = mexN l' :=
  mexN_eq ⟨fun hm => (mexN_is l').1 ((h _).1 hm), fun m hm => (h _).2 ((mexN_is l').2 m hm)⟩

/-- The flags of what is in a list. -/
def flags (n : Nat) (l : List Int) : List Bool := (List.range n).map fun j : Nat => decide ((j : Int) ∈ l)
theorem flags_nil (n : Nat) : flags n [] = List.replicate n false := by
  apply List.ext_getElem
  · simp [flags]
  · intro i h1 h2
    simp [flags]
theorem flags_length (n : Nat) (l : List Int) : (flags n l).length = n := by simp [flags]
theorem flags_get (n : Nat) (l : List Int) (j : Nat) (h : j < (flags n l).length) : (flags n l)[j] = decide ((j : Int) ∈ l) := by simp [flags]
theorem flags_set (n : Nat) (l : List Int) (x : Nat) (h : x < n) : (flags n l).set x true = flags n (l ++ [(x : Int)]) := by
  apply List.ext_getElem
  · simp [flags]
  · intro i h1 h2
    rw [List.getElem_set, flags_get]
    split
    · rename_i e; subst e
      rw [flags_get]
      simp
    · rename_i e
      rw [flags_get]
      have : (i : Int) ≠ (x : Int) := by omega
      simp [this]
theorem flags_out (n : Nat) (l : List Int) (x : Int) (h : ¬ (0 ≤ x ∧ x < n)) : flags n (l ++ [x]) = flags n l := by
  apply List.ext_getElem
  · simp [flags]
  · intro i h1 h2
    rw [flags_get, flags_get]
    have hi : i < n := by simpa [flags] using h2
    have : (i : Int) ≠ x := by omega
    simp [this]

/-! ### Valid games -/
def okFrom (i : Int) : Int → List Int → Bool
  | _, [] => true
  | p, x :: t => decide (p < x ∧ 0 ≤ x ∧ x ≤ i - 1) && okFrom i x t
def okRows : Nat → List (List Int) → Bool
  | _, [] => true
  | i, mv :: t => okFrom i (-1) mv && okRows (i + 1) t
def validG (g : List (List Int)) : Bool := okRows 0 g && decide (1 ≤ g.length ∧ g.length ≤ 60)
theorem okFrom_mem {i : Int} : ∀ {mv : List Int} {p : Int}, okFrom i p mv = true → ∀ x ∈ mv, 0 ≤ x ∧ x ≤ i - 1 := by
  intro mv
  induction mv with
  | nil => intro p _ x hx; cases hx
  | cons y t ih =>
    intro p h x hx
    simp only [okFrom, Bool.and_eq_true, decide_eq_true_eq] at h
    rcases List.mem_cons.1 hx with rfl | hx
    · exact ⟨h.1.2.1, h.1.2.2⟩
    · exact ih h.2 x hx
theorem okFrom_len {i : Int} : ∀ {mv : List Int} {p : Int}, okFrom i p mv = true → p ≤ i - 1 → (mv.length : Int) ≤ i - 1 - p := by
  intro mv
  induction mv with
  | nil => intro p _ h; simp; omega
  | cons y t ih =>
    intro p h hp
    simp only [okFrom, Bool.and_eq_true, decide_eq_true_eq] at h
    have := ih h.2 (by omega)
    simp only [List.length_cons]
    omega
theorem okRows_at : ∀ {g : List (List Int)} {i : Nat}, okRows i g = true → ∀ (j : Nat) (h : j < g.length), okFrom ((i + j : Nat) : Int) (-1) g[j] = true := by
  intro g
  induction g with
  | nil => intro i _ j h; simp at h
  | cons mv t ih =>
    intro i h j hj
    simp only [okRows, Bool.and_eq_true] at h
    cases j with
    | zero => simpa using h.1
    | succ j =>
      have := ih h.2 j (by simpa using hj)
      simpa [Nat.add_assoc, Nat.add_comm 1 j] using this
theorem okRows_take {g : List (List Int)} : ∀ {i : Nat} (n : Nat), okRows i g = true → okRows i (g.take n) = true := by
  induction g with
  | nil => intro i n _; simp [okRows]
  | cons mv t ih =>
    intro i n h
    simp only [okRows, Bool.and_eq_true] at h
    cases n with
    | zero => simp [okRows]
    | succ n => simp [okRows, h.1, ih n h.2]
theorem valid_at {g : List (List Int)} (h : validG g = true) (j : Nat) (hj : j < g.length) : ∀ x ∈ g[j], 0 ≤ x ∧ x ≤ (j : Int) - 1 := by
  simp only [validG, Bool.and_eq_true] at h
  have := okRows_at h.1 j hj
  simpa using okFrom_mem this
theorem valid_row_len {g : List (List Int)} (h : validG g = true) (j : Nat) (hj : j < g.length) : g[j].length ≤ j := by
  simp only [validG, Bool.and_eq_true] at h
  have := okRows_at h.1 j hj
  have := okFrom_len this (by omega)
  omega
theorem valid_len {g : List (List Int)} (h : validG g = true) : 1 ≤ g.length ∧ g.length ≤ 60 := by
  simp only [validG, Bool.and_eq_true, decide_eq_true_eq] at h
  exact h.2

/-! ### Values -/
def gvStep (out : List Int) (mv : List Int) : List Int := out ++ [((mexN (mv.map (rd out)) : Nat) : Int)]
/-- The values of all places. -/
def GV (g : List (List Int)) : List Int := g.foldl gvStep []
theorem gv_len : ∀ (g : List (List Int)) (out : List Int), (g.foldl gvStep out).length = out.length + g.length := by
  intro g
  induction g with
  | nil => intro out; simp
  | cons mv t ih => intro out; simp [ih, gvStep]; omega
theorem GV_len (g : List (List Int)) : (GV g).length = g.length := by simp [GV, gv_len]
theorem gv_prefix : ∀ (g : List (List Int)) (out : List Int) (j : Nat), j < out.length → rd (g.foldl gvStep out) (j : Int) = rd out j := by
  intro g
  induction g with
  | nil => intro out j _; rfl
  | cons mv t ih =>
    intro out j h
    rw [List.foldl_cons, ih _ j (by simp [gvStep]; omega)]
    unfold gvStep rd
    simp [List.getD_eq_getElem?_getD, List.getElem?_append_left h]
theorem gv_at : ∀ (g : List (List Int)) (out : List Int) (j : Nat) (h : j < g.length), (∀ x ∈ g[j], 0 ≤ x ∧ x < ((out.length + j : Nat) : Int)) →
    rd (g.foldl gvStep out) ((out.length + j : Nat) : Int) = ((mexN (g[j].map (rd (g.foldl gvStep out))) : Nat) : Int) := by
  intro g
  induction g with
  | nil => intro out j h; simp at h
  | cons mv t ih =>
    intro out j h hx
    rw [List.foldl_cons]
    cases j with
    | zero =>
      simp only [Nat.add_zero, List.getElem_cons_zero] at hx ⊢
      rw [gv_prefix t _ out.length (by simp [gvStep])]
      have e : rd (gvStep out mv) (out.length : Int) = ((mexN (mv.map (rd out)) : Nat) : Int) := by simp [gvStep, rd, List.getD_eq_getElem?_getD]
      rw [e]
      congr 2
      apply List.map_congr_left
      intro x hm
      obtain ⟨h0, h1⟩ := hx x hm
      obtain ⟨y, rfl⟩ := Int.eq_ofNat_of_zero_le h0
      rw [gv_prefix t _ y (by simp [gvStep]; omega)]
      unfold gvStep rd
      simp [List.getD_eq_getElem?_getD, List.getElem?_append_left (show y < out.length by omega)]
    | succ j =>
      have hl : (gvStep out mv).length = out.length + 1 := by simp [gvStep]
      have := ih (gvStep out mv) j (by simpa using h) (by
        intro x hm
        have := hx x (by simpa using hm)
        rw [hl]
        omega)
      rw [hl] at this
      rw [show out.length + (j + 1) = out.length + 1 + j by omega]
      simpa using this
theorem gvs_len (g : List (List Int)) (n : Nat) (h : n ≤ g.length) : ((g.take n).foldl gvStep []).length = n := by rw [gv_len]; simp; omega
theorem gvs_range {g : List (List Int)} (h : validG g = true) (n : Nat) (hn : n ≤ g.length) : ∀ x ∈ (g.take n).foldl gvStep [], 0 ≤ x ∧ x ≤ 60 := by
  induction n with
  | zero => intro x hx; simp at hx
  | succ n ih =>
    intro x hx
    have hl := valid_len h
    rw [List.take_succ_eq_append_getElem (by omega), List.foldl_append] at hx
    simp only [List.foldl_cons, List.foldl_nil] at hx
    unfold gvStep at hx
    rcases List.mem_append.1 hx with hx | hx
    · exact ih (by omega) x hx
    · rw [List.mem_singleton.1 hx]
      have h1 := mexN_le (g[n].map (rd ((g.take n).foldl gvStep [])))
      have h2 := valid_row_len h n (by omega)
      unfold gvStep at h1
      simp only [List.length_map] at h1
      omega
theorem gvs_take {g : List (List Int)} (n : Nat) (hn : n < g.length) : (g.take (n + 1)).foldl gvStep [] = gvStep ((g.take n).foldl gvStep []) g[n] := by
  rw [List.take_succ_eq_append_getElem hn, List.foldl_append]
  rfl
/-- The value of a place is the least number that is not among the values of those to which a move leads. -/
theorem GV_at {g : List (List Int)} (h : validG g = true) (j : Nat) (hj : j < g.length) : rd (GV g) (j : Int) = ((mexN (g[j].map (rd (GV g))) : Nat) : Int) := by
  have := gv_at g [] j hj (fun x hm => by have := valid_at h j hj x hm; simp; omega)
  simpa [GV] using this
theorem GV_le {g : List (List Int)} (h : validG g = true) : ∀ (d j : Nat), j < d → j < g.length → 0 ≤ rd (GV g) (j : Int) ∧ rd (GV g) (j : Int) ≤ j := by
  intro d
  induction d with
  | zero => intro j hj; omega
  | succ d ih =>
    intro j hd hj
    rw [GV_at h j hj]
    refine ⟨by omega, ?_⟩
    have hm := (mexN_is (g[j].map (rd (GV g)))).2
    apply Int.ofNat_le.2
    apply Nat.le_of_not_lt
    intro c
    have h1 := hm j c
    obtain ⟨x, hx, e⟩ := List.mem_map.1 h1
    obtain ⟨a, b⟩ := valid_at h j hj x hx
    obtain ⟨y, rfl⟩ := Int.eq_ofNat_of_zero_le a
    have := (ih y (by omega) (by omega)).2
    omega
theorem GV_range {g : List (List Int)} (h : validG g = true) (j : Nat) (hj : j < g.length) : 0 ≤ rd (GV g) (j : Int) ∧ rd (GV g) (j : Int) ≤ j := GV_le h (j + 1) j (by omega) hj

/-! ### Heaps from which some numbers may be taken -/
/-- What may be left of a heap h, by the numbers from 1 to n that may be taken: their values. -/
def takeTo (t : Nat) (out : List Int) (h n : Nat) : List Int := ((List.range' 1 n).filter fun m => t.testBit m).map fun m => rd out ((h - m : Nat) : Int)
theorem takeTo_zero (t : Nat) (out : List Int) (h : Nat) : takeTo t out h 0 = [] := by simp [takeTo]
theorem takeTo_succ (t : Nat) (out : List Int) (h n : Nat) : takeTo t out h (n + 1) = takeTo t out h n ++ (if t.testBit (n + 1) then [rd out ((h - (n + 1) : Nat) : Int)] else []) := by
  unfold takeTo
  rw [List.range'_1_concat, List.filter_append, List.map_append]
  congr 1
  rw [Nat.add_comm 1 n]
  by_cases c : t.testBit (n + 1) = true
  · simp [c]
  · simp [c]
theorem takeTo_len (t : Nat) (out : List Int) (h n : Nat) : (takeTo t out h n).length ≤ n := by
  unfold takeTo
  rw [List.length_map]
  have := List.length_filter_le (fun m => t.testBit m) (List.range' 1 n)
  simpa using this
/-- The values of the heaps from 0 to n - 1. -/
def TV (t : Nat) : Nat → List Int
  | 0 => []
  | n + 1 => TV t n ++ [((mexN (takeTo t (TV t n) n (min n 63)) : Nat) : Int)]
theorem TV_len (t n : Nat) : (TV t n).length = n := by
  induction n with
  | zero => rfl
  | succ n ih => simp [TV, ih]
theorem TV_range (t n : Nat) : ∀ x ∈ TV t n, 0 ≤ x ∧ x ≤ 63 := by
  induction n with
  | zero => intro x hx; simp [TV] at hx
  | succ n ih =>
    intro x hx
    unfold TV at hx
    rcases List.mem_append.1 hx with hx | hx
    · exact ih x hx
    · rw [List.mem_singleton.1 hx]
      have h1 := mexN_le (takeTo t (TV t n) n (min n 63))
      have h2 := takeTo_len t (TV t n) n (min n 63)
      omega
theorem takeTo_range (t n : Nat) (m : Nat) (hm : m ≤ n) : ∀ x ∈ takeTo t (TV t n) n m, 0 ≤ x ∧ x ≤ 63 := by
  intro x hx
  obtain ⟨y, hy, rfl⟩ := List.mem_map.1 hx
  have hy1 := List.mem_range'_1.1 (List.mem_filter.1 hy).1
  exact TV_range t n _ (rd_mem (by omega) (by rw [TV_len]; omega))

/-! ### Longest plays -/
def lpRow (out mv : List Int) (n : Int) : Int := mv.foldl (fun n y => if n < rd out y + 1 then rd out y + 1 else n) n
def lpStep (out : List Int) (mv : List Int) : List Int := out ++ [lpRow out mv 0]
/-- The greatest number of moves from each place. -/
def LP (g : List (List Int)) : List Int := g.foldl lpStep []
theorem lp_len : ∀ (g : List (List Int)) (out : List Int), (g.foldl lpStep out).length = out.length + g.length := by
  intro g
  induction g with
  | nil => intro out; simp
  | cons mv t ih => intro out; simp [ih, lpStep]; omega
theorem lpRow_range (out : List Int) (B : Int) (h : ∀ x ∈ out, 0 ≤ x ∧ x ≤ B) : ∀ (mv : List Int) (n : Int), (∀ x ∈ mv, 0 ≤ x ∧ x < (out.length : Int)) → 0 ≤ n ∧ n ≤ B + 1 → 0 ≤ lpRow out mv n ∧ lpRow out mv n ≤ B + 1 := by
  intro mv
  induction mv with
  | nil => intro n _ hn; exact hn
  | cons y t ih =>
    intro n hm hn
    have hy := hm y (by simp)
    have hv := h _ (rd_mem hy.1 hy.2)
    refine ih (if n < rd out y + 1 then rd out y + 1 else n) (fun x hx => hm x (by simp [hx])) ?_
    split <;> omega
theorem lps_take {g : List (List Int)} (n : Nat) (hn : n < g.length) : (g.take (n + 1)).foldl lpStep [] = lpStep ((g.take n).foldl lpStep []) g[n] := by
  rw [List.take_succ_eq_append_getElem hn, List.foldl_append]
  rfl
theorem lps_len (g : List (List Int)) (n : Nat) (h : n ≤ g.length) : ((g.take n).foldl lpStep []).length = n := by rw [lp_len]; simp; omega
theorem lpStep_range (out mv : List Int) (n : Nat) (ho : out.length = n) (hr : ∀ x ∈ out, 0 ≤ x ∧ x ≤ (n : Int)) (hv : ∀ y ∈ mv, 0 ≤ y ∧ y < (out.length : Int)) : ∀ x ∈ lpStep out mv, 0 ≤ x ∧ x ≤ ((n + 1 : Nat) : Int) := by
  intro x hx
  unfold lpStep at hx
  rcases List.mem_append.1 hx with hx | hx
  · have := hr x hx; omega
  · rw [List.mem_singleton.1 hx]
    have := lpRow_range out n hr mv 0 hv (by omega)
    omega
theorem lps_range {g : List (List Int)} (h : validG g = true) (n : Nat) (hn : n ≤ g.length) : ∀ x ∈ (g.take n).foldl lpStep [], 0 ≤ x ∧ x ≤ (n : Int) := by
  induction n with
  | zero => intro x hx; simp at hx
  | succ n ih =>
    have ho := lps_len g n (by omega)
    have hv := valid_at h n (by omega)
    rw [lps_take n (by omega)]
    exact lpStep_range _ _ n ho (ih (by omega)) (fun y hy => by have := hv y hy; omega)
end Go.Proofs.YtdgglnjegkmamaaDoor.Lib
