/- FnExactRectangleByExclusion: the printed pure statement holds: at every input the law's function answers true; no condition but the bounds of its kinds. -/
import Derived.Test.YtdgglnjegkmamaaDoorQFnExactRectangleByExclusionx11
import Derived.Test.YtdgglnjegkmamaaDoorLib
import Derived.Test.YtdgglnjegkmamaaDoorLib3
set_option linter.unusedVariables false
set_option linter.unusedSimpArgs false
namespace Go.Proofs.YtdgglnjegkmamaaDoor.Pure
open Go.RowKit Go.Proofs.YtdgglnjegkmamaaDoor.QFnExactRectangleByExclusion Go.Proofs.YtdgglnjegkmamaaDoorW.PrintWords Go.Proofs.YtdgglnjegkmamaaDoorW.PrintLast Go.Proofs.YtdgglnjegkmamaaDoor.Lib

theorem Ev_mono {α : Type} {g : Nat → Option α} {r : α} (hm : ∀ k, LeO (g k) (g (k + 1))) (K : Nat) (h : g K = some r) : Ev g r := by
  refine ⟨K, fun k hk => ?_⟩
  obtain ⟨d, rfl⟩ : ∃ d, k = K + d := ⟨k - K, by omega⟩
  clear hk
  induction d with
  | zero => exact h
  | succ d ih => exact hm (K + d) _ ih
/-! Turns with a greatest coin, by the number of their coins. -/
def m1 (c : Nat) : Int := ((2 ^ c : Nat) : Int)
def m2 (c a : Nat) : Int := ((2 ^ c + 2 ^ a : Nat) : Int)
def m3 (c a b : Nat) : Int := ((2 ^ c + 2 ^ a + 2 ^ b : Nat) : Int)
def k1 (r : Int) : Bool := decide (r = 0 ∨ r = 1 ∨ r = 3)
def k2 (r : Int) : Bool := decide (r = 1 ∨ r = 2 ∨ r = 3)
def k3 (r : Int) : Bool := decide (r = 3 ∨ r = 5)
def rowT (r : Int) (c a : Nat) : List Int := (if k2 r then [m2 c a] else []) ++ (if k3 r then (List.range a).map (m3 c a) else [])
def EP (r : Int) (c n : Nat) : List Int := (if k1 r then [m1 c] else []) ++ (List.range n).flatMap (rowT r c)
/-- The ruler's turns: as the program gathers them, and sorted. -/
def rulL (c : Nat) : List Int := m1 c :: (List.range c).map fun a => ((2 ^ (c + 1) - 2 ^ a : Nat) : Int)
def rulS (c : Nat) : List Int := (List.range (c + 1)).map fun a => ((2 ^ (c + 1) - 2 ^ (c - a) : Nat) : Int)
/-- All turns with the greatest coin c. -/
def turnL (r : Int) (c : Nat) : List Int := if r = 4 then rulS c else EP r c c
theorem EP_succ (r : Int) (c n : Nat) : EP r c (n + 1) = EP r c n ++ rowT r c n := by
  unfold EP
  rw [List.range_succ, List.flatMap_append, ← List.append_assoc]
  simp
theorem EP_zero (r : Int) (c : Nat) : EP r c 0 = if k1 r then [m1 c] else [] := by simp [EP]
theorem rowT_len (r : Int) (c a : Nat) : (rowT r c a).length ≤ a + 1 := by
  unfold rowT
  split <;> split <;> simp
theorem EP_len (r : Int) (c : Nat) : ∀ n, (EP r c n).length ≤ 1 + n * (n + 1) := by
  intro n
  induction n with
  | zero =>
    rw [EP_zero]
    split <;> simp
  | succ n ih =>
    rw [EP_succ, List.length_append]
    have := rowT_len r c n
    have e : (n + 1) * (n + 1 + 1) = n * (n + 1) + 2 * (n + 1) := by
      rw [Nat.mul_comm (n + 1), ← Nat.add_mul]
    omega
theorem pow_ok : ∀ a : Fin 24, (2 : Int) ^ a.val % 4294967296 = m1 a.val ∧ shl .u32 1 (IntKind.u64.wrap (a.val : Int)) = m1 a.val := by decide +kernel
theorem or2_ok : ∀ c : Fin 24, ∀ a : Fin 24, a.val < c.val → Go.bits .or .u32 (m1 c.val) (m1 a.val) = m2 c.val a.val := by decide +kernel
theorem or3_ok : ∀ c : Fin 24, ∀ a : Fin 24, a.val < c.val → ∀ b : Fin 24, b.val < a.val → Go.bits .or .u32 (m2 c.val a.val) (m1 b.val) = m3 c.val a.val b.val := by decide +kernel
theorem rul_spec_ok : ∀ c : Fin 24, spec_l04Turns.f 60 4 (c.val : Int) = some (rulS c.val) := by decide +kernel
theorem spec_turns_ev (r : Int) (hr : 0 ≤ r ∧ r ≤ 5) (c : Nat) (hc : c < 24) : Ev (fun k => spec_l04Turns.f k r (c : Int)) (turnL r c) := by
  by_cases h4 : r = 4
  · subst h4
    exact Ev_mono (fun k => spec_l04Turns.mono _ _ _) 60 (rul_spec_ok ⟨c, hc⟩)
  unfold turnL
  rw [if_neg h4]
  have hu : 0 ≤ IntKind.u64.wrap (c : Int) := by rw [wu64 (by omega) (by omega)]; omega
  have hp := (pow_ok ⟨c, hc⟩).2
  simp only at hp
  unfold spec_l04Turns.f
  simp only [Option.bind_some]
  rw [hp]
  refine Ev_pos hu ?_
  by_cases h0 : r = 0
  · subst h0
    refine Ev_pos rfl (Ev_pos (by simp) (Ev_as (Ev.now _) ?_))
    have hz : ∀ n, EP 0 c n = [m1 c] := by
      intro n
      induction n with
      | zero => rw [EP_zero]; rfl
      | succ n ih => rw [EP_succ, ih]; rfl
    rw [hz]
    rfl
  refine Ev_neg h0 (Ev_neg h4 ?_)
  have outer : ∀ (d n : Nat), n + d = c → Ev (fun k => spec_l04Turns.l1 k r (c : Int) (EP r c n) (m1 c) (n : Int)) (EP r c c) := by
    intro d
    induction d with
    | zero =>
      intro n hn
      obtain rfl : n = c := by omega
      refine Ev_round ?_
      simp only [spec_l04Turns.l1]
      exact Ev_neg (by omega) (Ev.now _)
    | succ d ih =>
      intro n hn
      have nx := ih (n + 1) (by omega)
      rw [EP_succ] at nx
      unfold rowT at nx
      rw [← List.append_assoc] at nx
      have hun : IntKind.u64.wrap (n : Int) = (n : Int) := wu64 (by omega) (by omega)
      have hpn := (pow_ok ⟨n, by omega⟩).2
      have hor := or2_ok ⟨c, hc⟩ ⟨n, by omega⟩ (by simp only; omega)
      simp only at hpn hor
      have hlen := EP_len r c n
      have hle : n * (n + 1) ≤ 24 * 24 := Nat.mul_le_mul (by omega) (by omega)
      have fin : ∀ L, L = EP r c n ++ (if k2 r then [m2 c n] else []) → Ev (fun k => spec_l04Turns.j4 k r (c : Int) L (m1 c) (n : Int) (m2 c n)) (EP r c c) := by
        intro L hL
        rw [← hL] at nx
        have hLl : L.length ≤ 600 := by
          rw [hL, List.length_append]
          split <;> simp <;> omega
        refine Ev_round ?_
        simp only [spec_l04Turns.j4]
        by_cases q3 : k3 r = true
        · have q3' : r = 3 ∨ r = 5 := of_decide_eq_true q3
          rw [if_pos q3] at nx
          have inner : ∀ (e b : Nat), b + e = n → Ev (fun k => spec_l04Turns.l2 k r (c : Int) (L ++ (List.range b).map (m3 c n)) (m1 c) (n : Int) (m2 c n) (b : Int)) (EP r c c) := by
            intro e
            induction e with
            | zero =>
              intro b hb
              obtain rfl : b = n := by omega
              refine Ev_round ?_
              simp only [spec_l04Turns.l2]
              rw [w64 (x := (b : Int) + 1) (by omega) (by omega)]
              exact Ev_neg (by omega) nx
            | succ e ihe =>
              intro b hb
              have nx2 := ihe (b + 1) (by omega)
              rw [List.range_succ, List.map_append, ← List.append_assoc] at nx2
              have hub : IntKind.u64.wrap (b : Int) = (b : Int) := wu64 (by omega) (by omega)
              have hpb := (pow_ok ⟨b, by omega⟩).2
              have hor3 := or3_ok ⟨c, hc⟩ ⟨n, by omega⟩ (by simp only; omega) ⟨b, by omega⟩ (by simp only; omega)
              simp only at hpb hor3
              refine Ev_round ?_
              simp only [spec_l04Turns.l2]
              rw [hpb, hor3, hub, w64 (x := (b : Int) + 1) (by omega) (by omega)]
              have hlt : (L ++ (List.range b).map (m3 c n)).length < 35184372088832 := by simp; omega
              refine Ev_pos (by omega) ?_
              by_cases e3 : r = 3
              · exact Ev_pos e3 (Ev_pos (by omega) (Ev_pos hlt nx2))
              · exact Ev_neg e3 (Ev_pos (by omega) (Ev_pos (by omega) (Ev_pos hlt nx2)))
          have := inner n 0 (by omega)
          rw [List.range_zero, List.map_nil, List.append_nil] at this
          exact this
        · have q3' : ¬ (r = 3 ∨ r = 5) := fun e => q3 (decide_eq_true e)
          rw [if_neg q3, List.append_nil] at nx
          refine Ev_round ?_
          simp only [spec_l04Turns.l2]
          rw [w64 (x := (n : Int) + 1) (by omega) (by omega)]
          refine Ev_ite' (fun _ => Ev_neg (by omega) (Ev_neg (by omega) nx)) (fun _ => nx)
      refine Ev_round ?_
      simp only [spec_l04Turns.l1]
      rw [hpn, hor, hun]
      refine Ev_pos (by omega) (Ev_pos (by omega) ?_)
      by_cases h5 : r = 5
      · refine Ev_pos h5 (fin _ ?_)
        have : k2 r = false := by rw [h5]; rfl
        rw [this]
        simp
      · have : k2 r = true := decide_eq_true (by omega)
        refine Ev_neg h5 (Ev_pos (by omega) (fin _ ?_))
        rw [this]
        simp
  have hj2 : Ev (fun k => spec_l04Turns.j2 k r (c : Int) (EP r c 0) (m1 c)) (EP r c c) := by
    refine Ev_round ?_
    simp only [spec_l04Turns.j2]
    exact outer c 0 (by omega)
  rw [EP_zero] at hj2
  have hj1 : ∀ b : Bool, b = k1 r → Ev (fun k => spec_l04Turns.j1 k r (c : Int) [] (m1 c) b) (EP r c c) := by
    intro b hb
    refine Ev_round ?_
    simp only [spec_l04Turns.j1]
    by_cases hk : k1 r = true
    · rw [if_pos hk] at hj2
      exact Ev_pos (by rw [hb, hk]) (Ev_pos (by simp) hj2)
    · rw [if_neg hk] at hj2
      exact Ev_neg (by rw [hb]; exact hk) hj2
  by_cases h1 : r = 1
  · exact Ev_pos h1 (hj1 true (by rw [h1]; rfl))
  · refine Ev_neg h1 (hj1 _ ?_)
    by_cases h3 : r = 3
    · rw [h3]; rfl
    · have : k1 r = false := decide_eq_false (by omega)
      rw [this]
      simpa using h3

theorem least_ev (l : List Int) (hl : l.length ≤ 65535) (hr : ∀ x ∈ l, 0 ≤ x ∧ x ≤ 65535) : Ev (fun k => spec_l03Least.f k l) ((mexN l : Nat) : Int) := by
  have hm := mexN_is l
  have hle := mexN_le l
  have last : ∀ (d n : Nat), n + d = mexN l → Ev (fun k => spec_l03Least.l1 k (flags (l.length + 1) l) (n : Int)) ((mexN l : Nat) : Int) := by
    intro d
    induction d with
    | zero =>
      intro n h
      obtain rfl : n = mexN l := by omega
      refine Ev_round ?_
      simp only [spec_l03Least.l1]
      refine Ev_pos (by omega) (Ev_pos (by rw [flags_length]; omega) (Ev_neg ?_ ?_))
      · rw [rdOf, List.getD_eq_getElem?_getD, List.getElem?_eq_getElem (by rw [Int.toNat_natCast, flags_length]; omega), Option.getD_some, flags_get]
        simp [hm.1]
      · rw [wu16 (by omega) (by omega)]
        exact Ev.now _
    | succ d ih =>
      intro n h
      refine Ev_round ?_
      simp only [spec_l03Least.l1]
      refine Ev_pos (by omega) (Ev_pos (by rw [flags_length]; omega) (Ev_pos ?_ ?_))
      · rw [rdOf, List.getD_eq_getElem?_getD, List.getElem?_eq_getElem (by rw [Int.toNat_natCast, flags_length]; omega), Option.getD_some, flags_get]
        simp [hm.2 n (by omega)]
      · rw [w64 (by omega) (by omega)]
        exact ih (n + 1) (by omega)
  have main : ∀ (d n : Nat), n + d = l.length → Ev (fun k => spec_l03Least.l0 k l (flags (l.length + 1) (l.take n)) (n : Int)) ((mexN l : Nat) : Int) := by
    intro d
    induction d with
    | zero =>
      intro n h
      obtain rfl : n = l.length := by omega
      refine Ev_round ?_
      simp only [spec_l03Least.l0]
      refine Ev_neg (by omega) ?_
      rw [List.take_length]
      exact last (mexN l) 0 (by omega)
    | succ d ih =>
      intro n h
      have hn : n < l.length := by omega
      have hx := hr _ (List.getElem_mem hn)
      have ht : l.take (n + 1) = l.take n ++ [l[n]] := by rw [List.take_succ_eq_append_getElem hn]
      refine Ev_round ?_
      simp only [spec_l03Least.l0]
      refine Ev_pos (by omega) (Ev_pos (by omega) ?_)
      rw [rd_nat hn, w64 (by omega) (by omega), w64 (by omega) (by omega), flags_length]
      have nx := ih (n + 1) (by omega)
      rw [ht] at nx
      by_cases c : l[n] < ((l.length + 1 : Nat) : Int)
      · refine Ev_pos c (Ev_pos (by omega) (Ev_pos c ?_))
        rw [flags_set _ _ _ (by omega), Int.toNat_of_nonneg hx.1]
        exact nx
      · refine Ev_neg c ?_
        rw [flags_out _ _ _ (by omega)] at nx
        exact nx
  unfold spec_l03Least.f
  rw [w64 (by omega) (by omega)]
  refine Ev_pos (by omega) (Ev_pos (by omega) ?_)
  have := main l.length 0 (by omega)
  rw [List.take_zero, flags_nil] at this
  exact this





theorem less32 (x y : Int) : cmp_Less_uint32.f x y = some (decide (x < y)) := by
  unfold cmp_Less_uint32.f cmp_isNaN_uint32.f
  simp
theorem rise_at {l : List Int} (hp : l.Pairwise (· ≤ ·)) (i : Nat) (h : i + 1 < l.length) : rd l (i : Int) ≤ rd l ((i + 1 : Nat) : Int) := by
  rw [rd_nat (by omega), rd_nat h]
  exact List.pairwise_iff_getElem.1 hp i (i + 1) (by omega) h (by omega)
theorem insertion_ev (l : List Int) (hp : l.Pairwise (· ≤ ·)) (hl : l.length ≤ 1000) : Ev (fun k => slices_insertionSortOrdered_uint32.f k l 0 (l.length : Int)) l := by
  have main : ∀ (d n : Nat), n + 1 + d = max l.length 1 → Ev (fun k => slices_insertionSortOrdered_uint32.l0 k l 0 (l.length : Int) ((n + 1 : Nat) : Int)) l := by
    intro d
    induction d with
    | zero =>
      intro n h
      refine Ev_round ?_
      simp only [slices_insertionSortOrdered_uint32.l0]
      exact Ev_neg (by omega) (Ev.now _)
    | succ d ih =>
      intro n h
      have hn : n + 1 < l.length := by omega
      have hr := rise_at hp n hn
      refine Ev_round ?_
      simp only [slices_insertionSortOrdered_uint32.l0]
      refine Ev_pos (by omega) (Ev_round ?_)
      simp only [slices_insertionSortOrdered_uint32.l1]
      rw [w64 (x := ((n + 1 : Nat) : Int) - 1) (by omega) (by omega), w64 (x := ((n + 1 : Nat) : Int) + 1) (by omega) (by omega), show ((n + 1 : Nat) : Int) - 1 = (n : Int) by omega, show ((n + 1 : Nat) : Int) + 1 = ((n + 1 + 1 : Nat) : Int) by omega]
      refine Ev_pos (by omega) (Ev_pos (by omega) (Ev_pos (by omega) (Ev_pos (by omega) (Ev_pos (by omega) (Ev_bind1 (less32 _ _) (Ev_neg (by simpa using hr) ?_))))))
      exact ih (n + 1) (by omega)
  have := main (max l.length 1 - 1) 0 (by omega)
  unfold slices_insertionSortOrdered_uint32.f
  rw [w64 (x := (0 : Int) + 1) (by omega) (by omega)]
  exact this
theorem partial_ev (l : List Int) (hp : l.Pairwise (· ≤ ·)) (h1 : 1 ≤ l.length) (hl : l.length ≤ 1000) : Ev (fun k => slices_partialInsertionSortOrdered_uint32.f k l 0 (l.length : Int)) (true, l) := by
  have main : ∀ (d n : Nat), n + 1 + d = l.length → Ev (fun k => slices_partialInsertionSortOrdered_uint32.l1 k l 0 (l.length : Int) ((n + 1 : Nat) : Int) 0) (true, l) := by
    intro d
    induction d with
    | zero =>
      intro n h
      refine Ev_round ?_
      simp only [slices_partialInsertionSortOrdered_uint32.l1]
      refine Ev_neg (by omega) (Ev_round ?_)
      simp only [slices_partialInsertionSortOrdered_uint32.j2]
      exact Ev_pos (by omega) (Ev.now _)
    | succ d ih =>
      intro n h
      have hn : n + 1 < l.length := by omega
      have hr := rise_at hp n hn
      refine Ev_round ?_
      simp only [slices_partialInsertionSortOrdered_uint32.l1]
      rw [w64 (x := ((n + 1 : Nat) : Int) - 1) (by omega) (by omega), w64 (x := ((n + 1 : Nat) : Int) + 1) (by omega) (by omega), show ((n + 1 : Nat) : Int) - 1 = (n : Int) by omega, show ((n + 1 : Nat) : Int) + 1 = ((n + 1 + 1 : Nat) : Int) by omega]
      refine Ev_pos (by omega) (Ev_pos (by omega) (Ev_pos (by omega) (Ev_pos (by omega) (Ev_pos (by omega) (Ev_bind1 (less32 _ _) (Ev_neg (by simpa using hr) ?_))))))
      exact ih (n + 1) (by omega)
  unfold slices_partialInsertionSortOrdered_uint32.f
  rw [w64 (x := (0 : Int) + 1) (by omega) (by omega)]
  refine Ev_round ?_
  simp only [slices_partialInsertionSortOrdered_uint32.l0]
  exact Ev_pos (by omega) (main (l.length - 1) 0 (by omega))
theorem rise_le {l : List Int} (hp : l.Pairwise (· ≤ ·)) (i j : Int) (h0 : 0 ≤ i) (h1 : i ≤ j) (h2 : j < (l.length : Int)) : rd l i ≤ rd l j := by
  obtain ⟨a, rfl⟩ := Int.eq_ofNat_of_zero_le h0
  obtain ⟨b, rfl⟩ := Int.eq_ofNat_of_zero_le (Int.le_trans h0 h1)
  rw [rd_nat (show a < l.length by omega), rd_nat (show b < l.length by omega)]
  rcases Nat.lt_or_eq_of_le (show a ≤ b by omega) with c | c
  · exact List.pairwise_iff_getElem.1 hp a b (by omega) (by omega) c
  · subst c
    exact Int.le_refl _
theorem md_rise {l : List Int} (hp : l.Pairwise (· ≤ ·)) (a b c s : Int) (h0 : 0 ≤ a) (h1 : a ≤ b) (h2 : b ≤ c) (h3 : c < (l.length : Int)) : slices_choosePivotOrdered_uint32.md l a b c s = (b, s) := by
  have e1 : slices_choosePivotOrdered_uint32.o2 l a b = (a, b) := if_neg (by have := rise_le hp a b h0 h1 (by omega); omega)
  have e2 : slices_choosePivotOrdered_uint32.o2 l b c = (b, c) := if_neg (by have := rise_le hp b c (by omega) h2 h3; omega)
  have f1 : slices_choosePivotOrdered_uint32.os l a b = 0 := if_neg (by have := rise_le hp a b h0 h1 (by omega); omega)
  have f2 : slices_choosePivotOrdered_uint32.os l b c = 0 := if_neg (by have := rise_le hp b c (by omega) h2 h3; omega)
  unfold slices_choosePivotOrdered_uint32.md
  rw [e1]
  simp only
  rw [e2]
  simp only
  rw [e1, f1, f2]
  simp
theorem choose_rise {l : List Int} (hp : l.Pairwise (· ≤ ·)) (h1 : 13 ≤ l.length) (h2 : l.length ≤ 900) : ∃ m, slices_choosePivotOrdered_uint32.f l 0 (l.length : Int) = some (m, 1) := by
  have hmid : ∀ i j k n : Int, 1 ≤ i → i + 1 ≤ j → j + 1 ≤ k → k + 1 < (l.length : Int) → slices_choosePivotOrdered_uint32.mid l i j k n = (j, 0) := by
    intro i j k n a b c d
    unfold slices_choosePivotOrdered_uint32.mid
    by_cases q : n ≥ 50
    · rw [if_pos q, md_rise hp (i - 1) i (i + 1) 0 (by omega) (by omega) (by omega) (by omega)]
      simp only
      rw [md_rise hp (j - 1) j (j + 1) 0 (by omega) (by omega) (by omega) (by omega)]
      simp only
      rw [md_rise hp (k - 1) k (k + 1) 0 (by omega) (by omega) (by omega) (by omega)]
      exact md_rise hp i j k 0 (by omega) (by omega) (by omega) (by omega)
    · rw [if_neg q]
      exact md_rise hp i j k 0 (by omega) (by omega) (by omega) (by omega)
  unfold slices_choosePivotOrdered_uint32.f
  rw [if_pos ⟨by omega, by omega, by omega, by omega⟩, hmid _ _ _ _ (by omega) (by omega) (by omega) (by omega)]
  exact ⟨0 + ((l.length : Int) - 0) / 4 * 2, by simp⟩
theorem pdq_ev (l : List Int) (hp : l.Pairwise (· ≤ ·)) (hl : l.length ≤ 900) (L : Int) (hL : 12 < l.length → L ≠ 0) : Ev (fun k => slices_pdqsortOrdered_uint32.f k l 0 (l.length : Int) L) l := by
  refine Ev_round ?_
  simp only [slices_pdqsortOrdered_uint32.f]
  refine Ev_round ?_
  simp only [slices_pdqsortOrdered_uint32.l0]
  rw [w64 (x := (l.length : Int) - 0) (by omega) (by omega)]
  by_cases c : l.length ≤ 12
  · exact Ev_pos (by omega) (Ev.bind (insertion_ev l hp (by omega)) (Ev.now _))
  refine Ev_neg (by omega) (Ev_neg (hL (by omega)) (Ev_pos (by simp) (Ev_round ?_)))
  simp only [slices_pdqsortOrdered_uint32.j1]
  obtain ⟨m, hm⟩ := choose_rise hp (by omega) hl
  refine Ev_bind1 hm (Ev_neg (by simp) (Ev_round ?_))
  simp only [slices_pdqsortOrdered_uint32.j2]
  refine Ev_pos (by simp) (Ev_pos (by simp) (Ev_round ?_))
  simp only [slices_pdqsortOrdered_uint32.j3]
  exact Ev_pos (by simp) (Ev.bind (partial_ev l hp (by omega) (by omega)) (Ev_pos (by simp) (Ev.now _)))
theorem len_all : ∀ m : Fin 300, (match bits_Len.f 3 ((m.val : Nat) : Int) with | some L => decide (12 < m.val → L ≠ 0) | none => false) = true := by decide +kernel
theorem len_ev (n : Nat) (hn : n < 300) : ∃ L, Ev (fun k => bits_Len.f k (IntKind.u64.wrap (n : Int))) L ∧ (12 < n → L ≠ 0) := by
  rw [wu64 (by omega) (by omega)]
  have h := len_all ⟨n, hn⟩
  simp only at h
  split at h
  · rename_i L hL
    exact ⟨L, Ev_mono (fun k => bits_Len.mono _ _) 3 hL, of_decide_eq_true h⟩
  · cases h
theorem sort32_ev (l : List Int) (hp : l.Pairwise (· ≤ ·)) (hl : l.length < 300) : Ev (fun k => slices_Sort_uint32_uint32.f k l) l := by
  obtain ⟨L, h1, h2⟩ := len_ev l.length hl
  exact Ev.bind h1 (Ev.bind (pdq_ev l hp (by omega) L h2) (Ev.now _))

theorem compact32_ev (l : List Int) (hp : l.Pairwise (· < ·)) (hl : l.length ≤ 1000) : Ev (fun k => slices_Compact_uint32_uint32.f k l) l := by
  by_cases c : (l.length : Int) < 2
  · exact Ev_pos c (Ev.now _)
  have main : ∀ (d n : Nat), n + 1 + d = l.length → Ev (fun k => slices_Compact_uint32_uint32.l0 k l ((n + 1 : Nat) : Int)) l := by
    intro d
    induction d with
    | zero =>
      intro n h
      refine Ev_round ?_
      simp only [slices_Compact_uint32_uint32.l0]
      exact Ev_neg (by omega) (Ev.now _)
    | succ d ih =>
      intro n h
      have hn : n + 1 < l.length := by omega
      have := List.pairwise_iff_getElem.1 hp n (n + 1) (by omega) hn (by omega)
      refine Ev_round ?_
      simp only [slices_Compact_uint32_uint32.l0]
      rw [w64 (x := ((n + 1 : Nat) : Int) - 1) (by omega) (by omega), w64 (x := ((n + 1 : Nat) : Int) + 1) (by omega) (by omega), show ((n + 1 : Nat) : Int) - 1 = (n : Int) by omega, rd_nat hn, rd_nat (show n < l.length by omega)]
      exact Ev_pos (by omega) (Ev_pos (by omega) (Ev_pos (by omega) (Ev_pos (by omega) (Ev_neg (by omega) (ih (n + 1) (by omega))))))
  exact Ev_neg c (main (l.length - 1) 0 (by omega))

theorem may1_ok : ∀ r : Fin 6, r.val ≠ 4 → ∀ c : Fin 24, impl_mayTurn.f 2 (r.val : Int) (m1 c.val) = some (k1 (r.val : Int)) := by decide +kernel
theorem may2_ok : ∀ r : Fin 6, r.val ≠ 4 → ∀ c : Fin 24, ∀ a : Fin 24, a.val < c.val → impl_mayTurn.f 2 (r.val : Int) (m2 c.val a.val) = some (k2 (r.val : Int)) := by decide +kernel
theorem may3_ok : ∀ r : Fin 6, r.val ≠ 4 → ∀ c : Fin 24, ∀ a : Fin 24, a.val < c.val → ∀ b : Fin 24, b.val < a.val → impl_mayTurn.f 2 (r.val : Int) (m3 c.val a.val b.val) = some (k3 (r.val : Int)) := by decide +kernel
theorem may4_ok : ∀ c : Fin 24, impl_mayTurn.f 2 4 (m1 c.val) = some true ∧ ∀ a : Fin 24, a.val < c.val → ((m1 c.val * 2 - 2 ^ a.val) % 4294967296 = ((2 ^ (c.val + 1) - 2 ^ a.val : Nat) : Int) ∧ impl_mayTurn.f 2 4 ((2 ^ (c.val + 1) - 2 ^ a.val : Nat) : Int) = some true) := by decide +kernel
theorem rul_sort_ok : ∀ c : Fin 24, slices_Sort_uint32_uint32.f 100 (rulL c.val) = some (rulS c.val) := by decide +kernel
/-- Does a list rise? -/
def chk : List Int → Bool
  | [] => true
  | [_] => true
  | x :: y :: t => decide (x < y) && chk (y :: t)
theorem chk_rise : ∀ l : List Int, chk l = true → l.Pairwise (· < ·) := by
  intro l
  induction l with
  | nil => intro _; exact List.Pairwise.nil
  | cons x t ih =>
    intro h
    cases t with
    | nil => exact List.pairwise_singleton _ _
    | cons y t =>
      simp only [chk, Bool.and_eq_true, decide_eq_true_eq] at h
      have h2 := ih h.2
      rw [List.pairwise_cons]
      refine ⟨fun z hz => ?_, h2⟩
      rcases List.mem_cons.1 hz with e | e
      · rw [e]; exact h.1
      · exact Int.lt_trans h.1 ((List.pairwise_cons.1 h2).1 z e)
theorem rise_ok : ∀ r : Fin 6, ∀ c : Fin 24, chk (turnL (r.val : Int) c.val) = true ∧ (turnL (r.val : Int) c.val).length < 300 := by decide +kernel
theorem turnL_rise (r : Int) (hr : 0 ≤ r ∧ r ≤ 5) (c : Nat) (hc : c < 24) : (turnL r c).Pairwise (· < ·) ∧ (turnL r c).length < 300 := by
  obtain ⟨R, rfl⟩ := Int.eq_ofNat_of_zero_le hr.1
  have := rise_ok ⟨R, by omega⟩ ⟨c, hc⟩
  exact ⟨chk_rise _ this.1, this.2⟩
theorem add_ev {r m : Int} {b : Bool} (l : List Int) (h : impl_mayTurn.f 2 r m = some b) : Ev (fun k => impl_turnsAt.add k r l m) (if b = true then l ++ [m] else l) := by
  unfold impl_turnsAt.add
  exact Ev.bind (Ev_mono (fun k => impl_mayTurn.mono _ _ _) 2 h) (Ev.now _)
theorem in_ev (R : Nat) (hR : R < 6) (h4 : R ≠ 4) (c a : Nat) (hc : c < 24) (ha : a < c) : ∀ (d b : Nat) (l : List Int), b + d = a → Ev (fun k => impl_turnsAt.in k (R : Int) (m2 c a) d b l) (l ++ if k3 (R : Int) then (List.range' b d).map (m3 c a) else []) := by
  intro d
  induction d with
  | zero =>
    intro b l _
    refine Ev_as (Ev.now _) ?_
    simp
  | succ d ih =>
    intro b l hb
    have hp := (pow_ok ⟨b, by omega⟩).1
    have ho := or3_ok ⟨c, hc⟩ ⟨a, by omega⟩ ha ⟨b, by omega⟩ (by simp only; omega)
    have hm := may3_ok ⟨R, hR⟩ h4 ⟨c, hc⟩ ⟨a, by omega⟩ ha ⟨b, by omega⟩ (by simp only; omega)
    simp only at hp ho hm
    show Ev (fun k => (impl_turnsAt.add k (R : Int) l (Go.bits .or .u32 (m2 c a) (2 ^ b % 4294967296))).bind fun l' => impl_turnsAt.in k (R : Int) (m2 c a) d (b + 1) l') _
    rw [hp, ho]
    refine Ev.bind (add_ev l hm) (Ev_as (ih (b + 1) _ (by omega)) ?_)
    by_cases q : k3 (R : Int) = true
    · simp [q, List.range'_succ]
    · simp [q]
theorem out_ev (R : Nat) (hR : R < 6) (h4 : R ≠ 4) (c : Nat) (hc : c < 24) : ∀ (d n : Nat), n + d = c → Ev (fun k => impl_turnsAt.out k (R : Int) (m1 c) d n (EP (R : Int) c n)) (EP (R : Int) c c) := by
  intro d
  induction d with
  | zero =>
    intro n hn
    obtain rfl : n = c := by omega
    exact Ev.now _
  | succ d ih =>
    intro n hn
    have hp := (pow_ok ⟨n, by omega⟩).1
    have ho := or2_ok ⟨c, hc⟩ ⟨n, by omega⟩ (by simp only; omega)
    have hm := may2_ok ⟨R, hR⟩ h4 ⟨c, hc⟩ ⟨n, by omega⟩ (by simp only; omega)
    simp only at hp ho hm
    have nx := ih (n + 1) (by omega)
    rw [EP_succ] at nx
    unfold impl_turnsAt.out
    refine Ev_neg (by omega) ?_
    rw [hp, ho]
    refine Ev.bind (add_ev _ hm) (Ev.bind (in_ev R hR h4 c n hc (by omega) n 0 _ (by omega)) (Ev.congr (fun k => ?_) nx))
    congr 1
    unfold rowT
    rw [← List.append_assoc, List.range_eq_range']
    by_cases q : k2 (R : Int) = true
    · simp [q]
    · simp [q]
theorem out4_ev (c : Nat) (hc : c < 24) : ∀ (d n : Nat) (l : List Int), n + d = c → Ev (fun k => impl_turnsAt.out k 4 (m1 c) d n l) (l ++ (List.range' n d).map fun a => ((2 ^ (c + 1) - 2 ^ a : Nat) : Int)) := by
  intro d
  induction d with
  | zero =>
    intro n l hn
    refine Ev_as (Ev.now _) ?_
    simp
  | succ d ih =>
    intro n l hn
    have hm := (may4_ok ⟨c, hc⟩).2 ⟨n, by omega⟩ (by simp only; omega)
    simp only at hm
    unfold impl_turnsAt.out
    refine Ev_pos rfl ?_
    rw [hm.1]
    refine Ev.bind (add_ev l hm.2) (Ev_as (ih (n + 1) _ (by omega)) ?_)
    simp [List.range'_succ]
theorem turns_ev (r : Int) (hr : 0 ≤ r ∧ r ≤ 5) (c : Nat) (hc : c < 24) : Ev (fun k => impl_turnsAt.f k r (c : Int)) (turnL r c) := by
  obtain ⟨R, rfl⟩ := Int.eq_ofNat_of_zero_le hr.1
  have hp := (pow_ok ⟨c, hc⟩).1
  simp only at hp
  obtain ⟨hrise, hlen⟩ := turnL_rise (R : Int) hr c hc
  have hcomp := compact32_ev (turnL (R : Int) c) hrise (by omega)
  unfold impl_turnsAt.f
  rw [Int.toNat_natCast, hp]
  refine Ev_pos (by omega) (Ev_pos (by omega) ?_)
  by_cases h4 : R = 4
  · subst h4
    refine Ev.bind (add_ev [] (may4_ok ⟨c, hc⟩).1) (Ev.bind (out4_ev c hc c 0 _ (by omega)) ?_)
    have e : (([] : List Int) ++ [m1 c]) ++ ((List.range' 0 c).map fun a => ((2 ^ (c + 1) - 2 ^ a : Nat) : Int)) = rulL c := by
      rw [← List.range_eq_range']
      rfl
    have hs : Ev (fun k => slices_Sort_uint32_uint32.f k (rulL c)) (rulS c) := Ev_mono (fun k => slices_Sort_uint32_uint32.mono _ _) 100 (rul_sort_ok ⟨c, hc⟩)
    rw [if_pos rfl, e]
    exact Ev.bind hs (Ev.bind hcomp (Ev.now _))
  · have e4 : turnL (R : Int) c = EP (R : Int) c c := if_neg (by omega)
    rw [e4] at hrise hlen hcomp ⊢
    have ho := out_ev R (by omega) h4 c hc c 0 (by omega)
    rw [EP_zero] at ho
    have ha := add_ev [] (may1_ok ⟨R, by omega⟩ h4 ⟨c, hc⟩)
    simp only [List.nil_append] at ha
    refine Ev.bind ha (Ev.bind ho (Ev.bind (sort32_ev _ (hrise.imp (fun h => Int.le_of_lt h)) hlen) (Ev.bind hcomp (Ev.now _))))

theorem index_false_ev (fl : List Bool) (n : Nat) (hn : n < fl.length) (hl : fl.length ≤ 9223372036854775806) (h1 : fl[n] = false) (h2 : ∀ m (hm : m < n), fl[m] = true) :
    Ev (fun k => slices_Index_bool_bool.f k fl false) (n : Int) := by
  have main : ∀ (d m : Nat), m + d = n → Ev (fun k => slices_Index_bool_bool.l0 k fl false fl.length (m : Int)) (n : Int) := by
    intro d
    induction d with
    | zero =>
      intro m hm
      obtain rfl : m = n := by omega
      refine Ev_round ?_
      simp only [slices_Index_bool_bool.l0]
      refine Ev_pos (by omega) (Ev_pos (by omega) (Ev_pos (by omega) (Ev_pos ?_ (Ev.now _))))
      simp [rdOf, List.getD_eq_getElem?_getD, List.getElem?_eq_getElem hn, h1]
    | succ d ih =>
      intro m hm
      refine Ev_round ?_
      simp only [slices_Index_bool_bool.l0]
      refine Ev_pos (by omega) (Ev_pos (by omega) (Ev_pos (by omega) (Ev_neg ?_ ?_)))
      · simp [rdOf, List.getD_eq_getElem?_getD, List.getElem?_eq_getElem (show m < fl.length by omega), h2 m (by omega)]
      · rw [w64 (by omega) (by omega)]
        exact ih (m + 1) (by omega)
  exact main n 0 (by omega)

theorem mex_index (l : List Int) : (mexN l < (flags (l.length + 1) l).length) ∧ (∀ h, (flags (l.length + 1) l)[mexN l]'h = false) ∧ ∀ m (hm : m < mexN l) h, (flags (l.length + 1) l)[m]'h = true := by
  have hm := mexN_is l
  have hle := mexN_le l
  refine ⟨by rw [flags_length]; omega, fun h => ?_, fun m hlt h => ?_⟩
  · rw [flags_get]; simp [hm.1]
  · rw [flags_get]; simp [hm.2 m hlt]
theorem impl_mex_ev (l : List Int) (hl : l.length ≤ 140737488355327) (hr : ∀ x ∈ l, 0 ≤ x ∧ x ≤ 65535) : Ev (fun k => impl_mex.f k l) ((mexN l : Nat) : Int) := by
  have main : ∀ (d n : Nat), n + d = l.length → Ev (fun k => impl_mex.l0 k (flags (l.length + 1) (l.take n)) l l.length (n : Int)) ((mexN l : Nat) : Int) := by
    intro d
    induction d with
    | zero =>
      intro n h
      obtain rfl : n = l.length := by omega
      refine Ev_round ?_
      simp only [impl_mex.l0]
      refine Ev_neg (by omega) (Ev.bind ?_ (Ev.now _))
      rw [List.take_length]
      obtain ⟨a, b, c⟩ := mex_index l
      exact index_false_ev _ _ a (by rw [flags_length]; omega) (b a) (fun m hm => c m hm (by omega))
    | succ d ih =>
      intro n h
      have hn : n < l.length := by omega
      have hx := hr _ (List.getElem_mem hn)
      have ht : l.take (n + 1) = l.take n ++ [l[n]] := by rw [List.take_succ_eq_append_getElem hn]
      refine Ev_round ?_
      simp only [impl_mex.l0]
      refine Ev_pos (by omega) (Ev_pos (by omega) (Ev_pos (by omega) ?_))
      rw [rd_nat hn, w64 (by omega) (by omega), w64 (by omega) (by omega), flags_length]
      have nx := ih (n + 1) (by omega)
      rw [ht] at nx
      by_cases c : l[n] < ((l.length + 1 : Nat) : Int)
      · refine Ev_pos c (Ev_pos (by omega) (Ev_pos c ?_))
        rw [flags_set _ _ _ (by omega), Int.toNat_of_nonneg hx.1]
        exact nx
      · refine Ev_neg c ?_
        rw [flags_out _ _ _ (by omega)] at nx
        exact nx
  unfold impl_mex.f
  rw [w64 (by omega) (by omega)]
  refine Ev_pos (by omega) (Ev_pos (by omega) ?_)
  have := main l.length 0 (by omega)
  rw [List.take_zero, flags_nil] at this
  exact this

theorem l04rule_f (r : Int) : spec_l04Rule.f r = some (decide (0 ≤ r ∧ r ≤ 5)) := by
  unfold spec_l04Rule.f spec_l00In.f
  by_cases c : r ≥ 0
  · rw [if_pos c]
    exact congrArg some (decide_eq_decide.2 (by omega))
  · rw [if_neg c]
    exact congrArg some (decide_eq_false (by omega)).symm
theorem isRule_f (r : Int) : impl_isRule.f r = some (decide (0 ≤ r ∧ r ≤ 5)) := by
  unfold impl_isRule.f impl_within.f
  by_cases c : 0 ≤ r
  · rw [if_pos c]
    exact congrArg some (decide_eq_decide.2 (by omega))
  · rw [if_neg c]
    exact congrArg some (decide_eq_false (by omega)).symm
theorem in4 (c : Int) : spec_l00In.f c 0 4 = some (decide (0 ≤ c ∧ c ≤ 4)) := by
  unfold spec_l00In.f
  by_cases q : c ≥ 0
  · rw [if_pos q]
    exact congrArg some (decide_eq_decide.2 (by omega))
  · rw [if_neg q]
    exact congrArg some (decide_eq_false (by omega)).symm
theorem within4 (c : Int) : impl_within.f c 0 4 = some (decide (0 ≤ c ∧ c ≤ 4)) := by
  unfold impl_within.f
  by_cases q : 0 ≤ c
  · rw [if_pos q]
    exact congrArg some (decide_eq_decide.2 (by omega))
  · rw [if_neg q]
    exact congrArg some (decide_eq_false (by omega)).symm
/-- The arguments are in their bounds. -/
def okX (a d x y : Int) : Prop := (0 ≤ a ∧ a ≤ 5) ∧ (0 ≤ d ∧ d ≤ 5) ∧ (0 ≤ x ∧ x ≤ 4) ∧ (0 ≤ y ∧ y ≤ 4)
instance (a d x y : Int) : Decidable (okX a d x y) := inferInstanceAs (Decidable (_ ∧ _))
theorem both_f (a d x y : Int) : spec_l04Both.f a d x y 4 = some (decide (okX a d x y)) := by
  unfold spec_l04Both.f okX
  rw [l04rule_f a, l04rule_f d, in4 x, in4 y]
  simp only [Option.bind_some]
  by_cases h1 : 0 ≤ a ∧ a ≤ 5
  · rw [if_pos (decide_eq_true h1)]
    by_cases h2 : 0 ≤ d ∧ d ≤ 5
    · rw [if_pos (decide_eq_true h2)]
      by_cases h3 : 0 ≤ x ∧ x ≤ 4
      · rw [if_pos (decide_eq_true h3)]
        exact congrArg some (decide_eq_decide.2 ⟨fun h => ⟨h1, h2, h3, h⟩, fun h => h.2.2.2⟩)
      · rw [if_neg (by simpa using h3)]
        exact congrArg some (decide_eq_false (fun h => h3 h.2.2.1)).symm
    · rw [if_neg (by simpa using h2)]
      exact congrArg some (decide_eq_false (fun h => h2 h.2.1)).symm
  · rw [if_neg (by simpa using h1)]
    exact congrArg some (decide_eq_false (fun h => h1 h.1)).symm
theorem code_f (a d x y : Int) : impl_cellCode.f a d x y 4 = some (if okX a d x y then 0 else 2) := by
  unfold impl_cellCode.f
  rw [isRule_f a, isRule_f d, within4 x, within4 y]
  simp only [Option.bind_some]
  by_cases h1 : 0 ≤ a ∧ a ≤ 5
  · rw [if_pos (decide_eq_true h1)]
    by_cases h2 : 0 ≤ d ∧ d ≤ 5
    · rw [if_pos (decide_eq_true h2)]
      by_cases h3 : 0 ≤ x ∧ x ≤ 4
      · rw [if_pos (decide_eq_true h3)]
        by_cases h4 : 0 ≤ y ∧ y ≤ 4
        · rw [if_pos (decide_eq_true h4), if_pos (show okX a d x y from ⟨h1, h2, h3, h4⟩)]
        · rw [if_neg (by simpa using h4), if_neg (fun h : okX a d x y => h4 h.2.2.2)]
      · rw [if_neg (by simpa using h3), if_neg (fun h : okX a d x y => h3 h.2.2.1)]
    · rw [if_neg (by simpa using h2), if_neg (fun h : okX a d x y => h2 h.2.1)]
  · rw [if_neg (by simpa using h1), if_neg (fun h : okX a d x y => h1 h.1)]
/-! Boards of values. -/
def okG (G : List Int) : Prop := G.length = 25 ∧ ∀ x ∈ G, 0 ≤ x ∧ x ≤ 65535
theorem okG_zero : okG g0 := ⟨by simp [g0], fun x hx => by
  have := List.eq_of_mem_replicate hx
  omega⟩
theorem okG_set {G : List Int} (h : okG G) (j : Nat) (x : Int) (hx : 0 ≤ x ∧ x ≤ 65535) : okG (G.set j x) :=
  ⟨by rw [List.length_set]; exact h.1, fun y hy => by
    rcases List.mem_or_eq_of_mem_set hy with e | e
    · exact h.2 y e
    · rw [e]; exact hx⟩
theorem okG_rd {G : List Int} (h : okG G) (j : Nat) : 0 ≤ rd G (j : Int) ∧ rd G (j : Int) ≤ 65535 := by
  by_cases c : j < 25
  · exact h.2 _ (rd_mem (by omega) (by rw [h.1]; omega))
  · unfold rd
    rw [List.getD_eq_getElem?_getD, List.getElem?_eq_none (by rw [Int.toNat_natCast, h.1]; omega)]
    simp
theorem exSum_in {G : List Int} (h : okG G) (a d : Int) (c r : Nat) : ∀ (e n : Nat) (s : Int), 0 ≤ s ∧ s ≤ 65535 → 0 ≤ exSum G a d c r e n s ∧ exSum G a d c r e n s ≤ 65535 := by
  intro e
  induction e with
  | zero => intro n s hs; exact hs
  | succ e ih =>
    intro n s hs
    refine ih (n + 1) _ ?_
    split
    · exact X_range hs (okG_rd h n)
    · exact hs
theorem exB_in {G : List Int} (h : okG G) (a : Int) (c r : Nat) : ∀ (T L : List Int), (∀ x ∈ L, 0 ≤ x ∧ x ≤ 65535) → (∀ x ∈ exB G a c r T L, 0 ≤ x ∧ x ≤ 65535) ∧ (exB G a c r T L).length = L.length + T.length := by
  intro T
  induction T with
  | nil => intro L hL; exact ⟨hL, rfl⟩
  | cons d t ih =>
    intro L hL
    have := ih (L ++ [exSum G a d c r 25 0 0]) (fun x hx => by
      rcases List.mem_append.1 hx with q | q
      · exact hL x q
      · rw [List.mem_singleton.1 q]; exact exSum_in h a d c r 25 0 0 ⟨by omega, by omega⟩)
    refine ⟨this.1, ?_⟩
    rw [show exB G a c r (d :: t) L = exB G a c r t (L ++ [exSum G a d c r 25 0 0]) from rfl, this.2]
    simp
    omega
theorem exA_in {G : List Int} (h : okG G) (c r : Nat) (TB : List Int) : ∀ (T L : List Int), (∀ x ∈ L, 0 ≤ x ∧ x ≤ 65535) → (∀ x ∈ exA G c r TB T L, 0 ≤ x ∧ x ≤ 65535) ∧ (exA G c r TB T L).length = L.length + T.length * TB.length := by
  intro T
  induction T with
  | nil => intro L hL; exact ⟨hL, by simp [exA]⟩
  | cons a t ih =>
    intro L hL
    have h1 := exB_in h a c r TB L hL
    have h2 := ih _ h1.1
    refine ⟨h2.1, ?_⟩
    rw [show exA G c r TB (a :: t) L = exA G c r TB t (exB G a c r TB L) from rfl, h2.2, h1.2, List.length_cons, Nat.succ_mul]
    omega
theorem rxQ_in {G : List Int} (h : okG G) (a d : Int) (i k p : Nat) : ∀ (e n : Nat) (s : Int), 0 ≤ s ∧ s ≤ 65535 → 0 ≤ rxQ G a d i k p e n s ∧ rxQ G a d i k p e n s ≤ 65535 := by
  intro e
  induction e with
  | zero => intro n s hs; exact hs
  | succ e ih =>
    intro n s hs
    refine ih (n + 1) _ ?_
    split
    · exact X_range hs (okG_rd h _)
    · exact hs
theorem rxP_in {G : List Int} (h : okG G) (a d : Int) (i k : Nat) : ∀ (e n : Nat) (s : Int), 0 ≤ s ∧ s ≤ 65535 → 0 ≤ rxP G a d i k e n s ∧ rxP G a d i k e n s ≤ 65535 := by
  intro e
  induction e with
  | zero => intro n s hs; exact hs
  | succ e ih => intro n s hs; exact ih (n + 1) _ (rxQ_in h a d i k n (k + 1) 0 s hs)
theorem rxB_in {G : List Int} (h : okG G) (a : Int) (c r : Nat) : ∀ (T L : List Int), (∀ x ∈ L, 0 ≤ x ∧ x ≤ 65535) → (∀ x ∈ rxB G a c r T L, 0 ≤ x ∧ x ≤ 65535) ∧ (rxB G a c r T L).length = L.length + T.length := by
  intro T
  induction T with
  | nil => intro L hL; exact ⟨hL, rfl⟩
  | cons d t ih =>
    intro L hL
    have := ih (L ++ [rxP G a d c r (c + 1) 0 0]) (fun x hx => by
      rcases List.mem_append.1 hx with q | q
      · exact hL x q
      · rw [List.mem_singleton.1 q]; exact rxP_in h a d c r (c + 1) 0 0 ⟨by omega, by omega⟩)
    refine ⟨this.1, ?_⟩
    rw [show rxB G a c r (d :: t) L = rxB G a c r t (L ++ [rxP G a d c r (c + 1) 0 0]) from rfl, this.2]
    simp
    omega
theorem rxA_in {G : List Int} (h : okG G) (c r : Nat) (TB : List Int) : ∀ (T L : List Int), (∀ x ∈ L, 0 ≤ x ∧ x ≤ 65535) → (∀ x ∈ rxA G c r TB T L, 0 ≤ x ∧ x ≤ 65535) ∧ (rxA G c r TB T L).length = L.length + T.length * TB.length := by
  intro T
  induction T with
  | nil => intro L hL; exact ⟨hL, by simp [rxA]⟩
  | cons a t ih =>
    intro L hL
    have h1 := rxB_in h a c r TB L hL
    have h2 := ih _ h1.1
    refine ⟨h2.1, ?_⟩
    rw [show rxA G c r TB (a :: t) L = rxA G c r TB t (rxB G a c r TB L) from rfl, h2.2, h1.2, List.length_cons, Nat.succ_mul]
    omega
theorem short_ok : ∀ r : Fin 6, ∀ c : Fin 5, (turnL (r.val : Int) c.val).length ≤ 11 := by decide +kernel
theorem short (r : Int) (hr : 0 ≤ r ∧ r ≤ 5) (c : Nat) (hc : c < 5) : (turnL r c).length ≤ 11 := by
  obtain ⟨R, rfl⟩ := Int.eq_ofNat_of_zero_le hr.1
  exact short_ok ⟨R, by omega⟩ ⟨c, hc⟩
/-! Both, without rounds. -/
def mC (ac dn : Int) (r : Nat) : Nat → Nat → List Int → List Int
  | 0, _, G => G
  | d + 1, c, G => mC ac dn r d (c + 1) (G.set (r * 5 + c) ((mexN (exA G c r (turnL dn r) (turnL ac c) []) : Nat) : Int))
def mR (ac dn : Int) (X : Nat) : Nat → Nat → List Int → List Int
  | 0, _, G => G
  | d + 1, r, G => mR ac dn X d (r + 1) (mC ac dn r (X + 1) 0 G)
def nK (ac dn : Int) (i : Nat) : Nat → Nat → List Int → List Int
  | 0, _, G => G
  | d + 1, k, G => nK ac dn i d (k + 1) (G.set (i * 5 + k) ((mexN (rxA G i k (turnL dn k) (turnL ac i) []) : Nat) : Int))
def nI (ac dn : Int) (Y : Nat) : Nat → Nat → List Int → List Int
  | 0, _, G => G
  | d + 1, i, G => nI ac dn Y d (i + 1) (nK ac dn i (Y + 1) 0 G)
theorem mex_small {l : List Int} (T U : Nat) (hT : T ≤ 11) (hU : U ≤ 11) (h : l.length = 0 + T * U) : mexN l ≤ 121 ∧ l.length ≤ 121 := by
  have h1 := mexN_le l
  have h2 : T * U ≤ 11 * 11 := Nat.mul_le_mul hT hU
  omega
theorem exC_ev (ac dn : Int) (ha : 0 ≤ ac ∧ ac ≤ 5) (hd : 0 ≤ dn ∧ dn ≤ 5) (r : Nat) (hr : r < 5) : ∀ (d c : Nat) (G : List Int), c + d ≤ 5 → okG G → Ev (fun k => exC k ac dn r d c G) (mC ac dn r d c G) ∧ okG (mC ac dn r d c G) := by
  intro d
  induction d with
  | zero => intro c G _ hG; exact ⟨Ev.now _, hG⟩
  | succ d ih =>
    intro c G hc hG
    have l1 := short ac ha c (by omega)
    have l2 := short dn hd r hr
    obtain ⟨h1, h2⟩ := exA_in hG c r (turnL dn r) (turnL ac c) [] (by simp)
    obtain ⟨h3, h4⟩ := mex_small _ _ l1 l2 h2
    have hG2 := okG_set hG (r * 5 + c) ((mexN (exA G c r (turnL dn r) (turnL ac c) []) : Nat) : Int) ⟨by omega, by omega⟩
    obtain ⟨n1, n2⟩ := ih (c + 1) _ (by omega) hG2
    exact ⟨Ev.bind (spec_turns_ev ac ha c (by omega)) (Ev.bind (spec_turns_ev dn hd r (by omega)) (Ev_pos ⟨by omega, by omega⟩ (Ev.bind (least_ev _ (by omega) h1) n1))), n2⟩
theorem exR_ev (ac dn : Int) (ha : 0 ≤ ac ∧ ac ≤ 5) (hd : 0 ≤ dn ∧ dn ≤ 5) (X : Nat) (hX : X < 5) : ∀ (d r : Nat) (G : List Int), r + d ≤ 5 → okG G → Ev (fun k => exR k ac dn X d r G) (mR ac dn X d r G) := by
  intro d
  induction d with
  | zero => intro r G _ hG; exact Ev.now _
  | succ d ih =>
    intro r G hr hG
    obtain ⟨n1, n2⟩ := exC_ev ac dn ha hd r (by omega) (X + 1) 0 G (by omega) hG
    exact Ev.bind n1 (ih (r + 1) _ (by omega) n2)
theorem rxK_ev (ac dn : Int) (ha : 0 ≤ ac ∧ ac ≤ 5) (hd : 0 ≤ dn ∧ dn ≤ 5) (i : Nat) (hi : i < 5) : ∀ (d c : Nat) (G : List Int), c + d ≤ 5 → okG G → Ev (fun k => rxK k ac dn i d c G) (nK ac dn i d c G) ∧ okG (nK ac dn i d c G) := by
  intro d
  induction d with
  | zero => intro c G _ hG; exact ⟨Ev.now _, hG⟩
  | succ d ih =>
    intro c G hc hG
    have l1 := short ac ha i hi
    have l2 := short dn hd c (by omega)
    obtain ⟨h1, h2⟩ := rxA_in hG i c (turnL dn c) (turnL ac i) [] (by simp)
    obtain ⟨h3, h4⟩ := mex_small _ _ l1 l2 h2
    have hG2 := okG_set hG (i * 5 + c) ((mexN (rxA G i c (turnL dn c) (turnL ac i) []) : Nat) : Int) ⟨by omega, by omega⟩
    obtain ⟨n1, n2⟩ := ih (c + 1) _ (by omega) hG2
    refine ⟨Ev.bind (turns_ev ac ha i (by omega)) (Ev.bind (turns_ev dn hd c (by omega)) (Ev_pos ⟨by omega, by omega⟩ (Ev.bind (impl_mex_ev _ (by omega) h1) ?_))), n2⟩
    rw [wu16 (by omega) (by omega)]
    exact n1
theorem rxI_ev (ac dn : Int) (ha : 0 ≤ ac ∧ ac ≤ 5) (hd : 0 ≤ dn ∧ dn ≤ 5) (Y : Nat) (hY : Y < 5) : ∀ (d i : Nat) (G : List Int), i + d ≤ 5 → okG G → Ev (fun k => rxI k ac dn Y d i G) (nI ac dn Y d i G) := by
  intro d
  induction d with
  | zero => intro i G _ hG; exact Ev.now _
  | succ d ih =>
    intro i G hi hG
    obtain ⟨n1, n2⟩ := rxK_ev ac dn ha hd i (by omega) (Y + 1) 0 G (by omega) hG
    exact Ev.bind n1 (ih (i + 1) _ (by omega) n2)
/-- At one rule's pair and every place of the board both values are one. -/
def sameAt (a d : Nat) : Prop := ∀ x : Fin 5, ∀ y : Fin 5, rd (mR (a : Int) (d : Int) x.val (y.val + 1) 0 g0) ((y.val * 5 + x.val : Nat) : Int) = rd (nI (a : Int) (d : Int) y.val (x.val + 1) 0 g0) ((x.val * 5 + y.val : Nat) : Int)
instance (a d : Nat) : Decidable (sameAt a d) := by unfold sameAt; infer_instance
theorem same_00 : sameAt 0 0 := by decide +kernel
theorem same_01 : sameAt 0 1 := by decide +kernel
theorem same_02 : sameAt 0 2 := by decide +kernel
theorem same_03 : sameAt 0 3 := by decide +kernel
theorem same_04 : sameAt 0 4 := by decide +kernel
theorem same_05 : sameAt 0 5 := by decide +kernel
theorem same_10 : sameAt 1 0 := by decide +kernel
theorem same_11 : sameAt 1 1 := by decide +kernel
theorem same_12 : sameAt 1 2 := by decide +kernel
theorem same_13 : sameAt 1 3 := by decide +kernel
theorem same_14 : sameAt 1 4 := by decide +kernel
theorem same_15 : sameAt 1 5 := by decide +kernel
theorem same_20 : sameAt 2 0 := by decide +kernel
theorem same_21 : sameAt 2 1 := by decide +kernel
theorem same_22 : sameAt 2 2 := by decide +kernel
theorem same_23 : sameAt 2 3 := by decide +kernel
theorem same_24 : sameAt 2 4 := by decide +kernel
theorem same_25 : sameAt 2 5 := by decide +kernel
theorem same_30 : sameAt 3 0 := by decide +kernel
theorem same_31 : sameAt 3 1 := by decide +kernel
theorem same_32 : sameAt 3 2 := by decide +kernel
theorem same_33 : sameAt 3 3 := by decide +kernel
theorem same_34 : sameAt 3 4 := by decide +kernel
theorem same_35 : sameAt 3 5 := by decide +kernel
theorem same_40 : sameAt 4 0 := by decide +kernel
theorem same_41 : sameAt 4 1 := by decide +kernel
theorem same_42 : sameAt 4 2 := by decide +kernel
theorem same_43 : sameAt 4 3 := by decide +kernel
theorem same_44 : sameAt 4 4 := by decide +kernel
theorem same_45 : sameAt 4 5 := by decide +kernel
theorem same_50 : sameAt 5 0 := by decide +kernel
theorem same_51 : sameAt 5 1 := by decide +kernel
theorem same_52 : sameAt 5 2 := by decide +kernel
theorem same_53 : sameAt 5 3 := by decide +kernel
theorem same_54 : sameAt 5 4 := by decide +kernel
theorem same_55 : sameAt 5 5 := by decide +kernel
theorem same_ok (a d : Nat) (ha : a ≤ 5) (hd : d ≤ 5) : sameAt a d := by
  have h1 : a = 0 ∨ a = 1 ∨ a = 2 ∨ a = 3 ∨ a = 4 ∨ a = 5 := by omega
  have h2 : d = 0 ∨ d = 1 ∨ d = 2 ∨ d = 3 ∨ d = 4 ∨ d = 5 := by omega
  rcases h1 with rfl | rfl | rfl | rfl | rfl | rfl <;> rcases h2 with rfl | rfl | rfl | rfl | rfl | rfl
  · exact same_00
  · exact same_01
  · exact same_02
  · exact same_03
  · exact same_04
  · exact same_05
  · exact same_10
  · exact same_11
  · exact same_12
  · exact same_13
  · exact same_14
  · exact same_15
  · exact same_20
  · exact same_21
  · exact same_22
  · exact same_23
  · exact same_24
  · exact same_25
  · exact same_30
  · exact same_31
  · exact same_32
  · exact same_33
  · exact same_34
  · exact same_35
  · exact same_40
  · exact same_41
  · exact same_42
  · exact same_43
  · exact same_44
  · exact same_45
  · exact same_50
  · exact same_51
  · exact same_52
  · exact same_53
  · exact same_54
  · exact same_55
theorem rect_both (a d x y : Int) : ∃ p, Ev (fun k => spec_RectangleByExclusion.f k a d x y) p ∧ Ev (fun k => impl_RectangleByExclusion.f k a d x y) p := by
  by_cases c : okX a d x y
  · have hok := c
    obtain ⟨ha, hd, hx, hy⟩ := c
    obtain ⟨A, rfl⟩ := Int.eq_ofNat_of_zero_le ha.1
    obtain ⟨D, rfl⟩ := Int.eq_ofNat_of_zero_le hd.1
    obtain ⟨X, rfl⟩ := Int.eq_ofNat_of_zero_le hx.1
    obtain ⟨Y, rfl⟩ := Int.eq_ofNat_of_zero_le hy.1
    have hs := exR_ev (A : Int) (D : Int) ha hd X (by omega) (Y + 1) 0 g0 (by omega) okG_zero
    have hi := rxI_ev (A : Int) (D : Int) ha hd Y (by omega) (X + 1) 0 g0 (by omega) okG_zero
    have he := same_ok A D (by omega) (by omega) ⟨X, by omega⟩ ⟨Y, by omega⟩
    simp only at he
    refine ⟨(rd (mR (A : Int) (D : Int) X (Y + 1) 0 g0) ((Y * 5 + X : Nat) : Int), 0), ?_, ?_⟩
    · have hx2 : Ev (fun k => spec_l04Excluded.f k (A : Int) (D : Int) (X : Int) (Y : Int)) (rd (mR (A : Int) (D : Int) X (Y + 1) 0 g0) ((Y * 5 + X : Nat) : Int)) := by
        unfold spec_l04Excluded.f
        rw [Int.toNat_natCast, Int.toNat_natCast]
        exact Ev_pos ⟨hx.1, hx.2, hy.1, hy.2⟩ (Ev.bind hs (Ev.now _))
      exact Ev_bind1 (both_f _ _ _ _) (Ev_pos (decide_eq_true hok) (Ev.bind hx2 (Ev.now _)))
    · unfold impl_RectangleByExclusion.f
      rw [code_f, if_pos hok, Int.toNat_natCast, Int.toNat_natCast, he]
      exact Ev_bind1 rfl (Ev_pos rfl (Ev_pos ⟨hx.1, hx.2, hy.1, hy.2⟩ (Ev.bind hi (Ev.now _))))
  · refine ⟨(0, 2), ?_, ?_⟩
    · exact Ev_bind1 (both_f _ _ _ _) (Ev_neg (by simpa using c) (Ev.now _))
    · unfold impl_RectangleByExclusion.f
      rw [code_f, if_neg c]
      exact Ev_bind1 rfl (Ev_neg (by decide) (Ev.now _))
theorem FnExactRectangleByExclusion : laws_FnExactRectangleByExclusion.Pure := by
  intro a d x y _ _ _ _
  obtain ⟨p, hs, hi⟩ := rect_both a d x y
  refine Ev.rounds (r := true) ?_
  exact Ev.bind hs (Ev.bind hi (Ev_pos rfl (Ev_pos rfl (Ev.now _))))

end Go.Proofs.YtdgglnjegkmamaaDoor.Pure
