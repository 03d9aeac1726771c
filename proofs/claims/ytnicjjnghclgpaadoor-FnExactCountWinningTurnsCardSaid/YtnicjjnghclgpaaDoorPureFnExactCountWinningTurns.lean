/- FnExactCountWinningTurns: the printed pure statement holds: at every input the law's function answers true; no condition but the bounds of its kinds. -/
import Derived.Test.YtnicjjnghclgpaaDoorQFnExactCountWinningTurnsx11
import Derived.Test.YtnicjjnghclgpaaDoorLib
import Derived.Test.YtnicjjnghclgpaaDoorLib2
import Derived.Test.YtnicjjnghclgpaaDoorLib3
import Derived.Test.YtnicjjnghclgpaaDoorLib5
set_option linter.unusedVariables false
set_option linter.unusedSimpArgs false
namespace Go.Proofs.YtnicjjnghclgpaaDoor.Pure
open Go.RowKit Go.Proofs.YtnicjjnghclgpaaDoor.QFnExactCountWinningTurns Go.Proofs.YtnicjjnghclgpaaDoorW.PrintWords Go.Proofs.YtnicjjnghclgpaaDoorW.PrintLast Go.Proofs.YtnicjjnghclgpaaDoor.Lib

theorem Ev_mono {α : Type} {g : Nat → Option α} {r : α} (hm : ∀ k, LeO (g k) (g (k + 1))) (K : Nat) (h : g K = some r) : Ev g r := by
  refine ⟨K, fun k hk => ?_⟩
  obtain ⟨d, rfl⟩ : ∃ d, k = K + d := ⟨k - K, by omega⟩
  clear hk
  induction d with
  | zero => exact h
  | succ d ih => exact hm (K + d) _ ih
/-! Turns with a greatest coin, by the number of their coins. -/
def m1 (c : Nat) : Int := ((2 ^ c : Nat) : Int)
def m2 (c a : Nat) : Int := ((2 ^ c + 2 ^ a : Nat) : Int)
def m3 (c a b : Nat) : Int := ((2 ^ c + 2 ^ a + 2 ^ b : Nat) : Int)
def k1 (r : Int) : Bool := decide (r = 0 ∨ r = 1 ∨ r = 3)
def k2 (r : Int) : Bool := decide (r = 1 ∨ r = 2 ∨ r = 3)
def k3 (r : Int) : Bool := decide (r = 3 ∨ r = 5)
def rowT (r : Int) (c a : Nat) : List Int := (if k2 r then [m2 c a] else []) ++ (if k3 r then (List.range a).map (m3 c a) else [])
def EP (r : Int) (c n : Nat) : List Int := (if k1 r then [m1 c] else []) ++ (List.range n).flatMap (rowT r c)
/-- The ruler's turns: as the program gathers them, and sorted. -/
def rulL (c : Nat) : List Int := m1 c :: (List.range c).map fun a => ((2 ^ (c + 1) - 2 ^ a : Nat) : Int)
def rulS (c : Nat) : List Int := (List.range (c + 1)).map fun a => ((2 ^ (c + 1) - 2 ^ (c - a) : Nat) : Int)
/-- All turns with the greatest coin c. -/
def turnL (r : Int) (c : Nat) : List Int := if r = 4 then rulS c else EP r c c
theorem EP_succ (r : Int) (c n : Nat) : EP r c (n + 1) = EP r c n ++ rowT r c n := by
  unfold EP
  rw [List.range_succ, List.flatMap_append, ← List.append_assoc]
  simp
theorem EP_zero (r : Int) (c : Nat) : EP r c 0 = if k1 r then [m1 c] else [] := by simp [EP]
theorem rowT_len (r : Int) (c a : Nat) : (rowT r c a).length ≤ a + 1 := by
  unfold rowT
  split <;> split <;> simp
theorem EP_len (r : Int) (c : Nat) : ∀ n, (EP r c n).length ≤ 1 + n * (n + 1) := by
  intro n
  induction n with
  | zero =>
    rw [EP_zero]
    split <;> simp
  | succ n ih =>
    rw [EP_succ, List.length_append]
    have := rowT_len r c n
    have e : (n + 1) * (n + 1 + 1) = n * (n + 1) + 2 * (n + 1) := by
      rw [Nat.mul_comm (n + 1), ← Nat.add_mul]
    omega
theorem pow_ok : ∀ a : Fin 24, (2 : Int) ^ a.val % 4294967296 = m1 a.val ∧ shl .u32 1 (IntKind.u64.wrap (a.val : Int)) = m1 a.val := by decide +kernel
theorem or2_ok : ∀ c : Fin 24, ∀ a : Fin 24, a.val < c.val → Go.bits .or .u32 (m1 c.val) (m1 a.val) = m2 c.val a.val := by decide +kernel
theorem or3_ok : ∀ c : Fin 24, ∀ a : Fin 24, a.val < c.val → ∀ b : Fin 24, b.val < a.val → Go.bits .or .u32 (m2 c.val a.val) (m1 b.val) = m3 c.val a.val b.val := by decide +kernel
theorem rul_spec_ok : ∀ c : Fin 24, spec_l04Turns.f 60 4 (c.val : Int) = some (rulS c.val) := by decide +kernel
theorem spec_turns_ev (r : Int) (hr : 0 ≤ r ∧ r ≤ 5) (c : Nat) (hc : c < 24) : Ev (fun k => spec_l04Turns.f k r (c : Int)) (turnL r c) := by
  by_cases h4 : r = 4
  · subst h4
    exact Ev_mono (fun k => spec_l04Turns.mono _ _ _) 60 (rul_spec_ok ⟨c, hc⟩)
  unfold turnL
  rw [if_neg h4]
  have hu : 0 ≤ IntKind.u64.wrap (c : Int) := by rw [wu64 (by omega) (by omega)]; omega
  have hp := (pow_ok ⟨c, hc⟩).2
  simp only at hp
  unfold spec_l04Turns.f
  simp only [Option.bind_some]
  rw [hp]
  refine Ev_pos hu ?_
  by_cases h0 : r = 0
  · subst h0
    refine Ev_pos rfl (Ev_pos (by simp) (Ev_as (Ev.now _) ?_))
    have hz : ∀ n, EP 0 c n = [m1 c] := by
      intro n
      induction n with
      | zero => rw [EP_zero]; rfl
      | succ n ih => rw [EP_succ, ih]; rfl
    rw [hz]
    rfl
  refine Ev_neg h0 (Ev_neg h4 ?_)
  have outer : ∀ (d n : Nat), n + d = c → Ev (fun k => spec_l04Turns.l1 k r (c : Int) (EP r c n) (m1 c) (n : Int)) (EP r c c) := by
    intro d
    induction d with
    | zero =>
      intro n hn
      obtain rfl : n = c := by omega
      refine Ev_round ?_
      simp only [spec_l04Turns.l1]
      exact Ev_neg (by omega) (Ev.now _)
    | succ d ih =>
      intro n hn
      have nx := ih (n + 1) (by omega)
      rw [EP_succ] at nx
      unfold rowT at nx
      rw [← List.append_assoc] at nx
      have hun : IntKind.u64.wrap (n : Int) = (n : Int) := wu64 (by omega) (by omega)
      have hpn := (pow_ok ⟨n, by omega⟩).2
      have hor := or2_ok ⟨c, hc⟩ ⟨n, by omega⟩ (by simp only; omega)
      simp only at hpn hor
      have hlen := EP_len r c n
      have hle : n * (n + 1) ≤ 24 * 24 := Nat.mul_le_mul (by omega) (by omega)
      have fin : ∀ L, L = EP r c n ++ (if k2 r then [m2 c n] else []) → Ev (fun k => spec_l04Turns.j4 k r (c : Int) L (m1 c) (n : Int) (m2 c n)) (EP r c c) := by
        intro L hL
        rw [← hL] at nx
        have hLl : L.length ≤ 600 := by
          rw [hL, List.length_append]
          split <;> simp <;> omega
        refine Ev_round ?_
        simp only [spec_l04Turns.j4]
        by_cases q3 : k3 r = true
        · have q3' : r = 3 ∨ r = 5 := of_decide_eq_true q3
          rw [if_pos q3] at nx
          have inner : ∀ (e b : Nat), b + e = n → Ev (fun k => spec_l04Turns.l2 k r (c : Int) (L ++ (List.range b).map (m3 c n)) (m1 c) (n : Int) (m2 c n) (b : Int)) (EP r c c) := by
            intro e
            induction e with
            | zero =>
              intro b hb
              obtain rfl : b = n := by omega
              refine Ev_round ?_
              simp only [spec_l04Turns.l2]
              rw [w64 (x := (b : Int) + 1) (by omega) (by omega)]
              exact Ev_neg (by omega) nx
            | succ e ihe =>
              intro b hb
              have nx2 := ihe (b + 1) (by omega)
              rw [List.range_succ, List.map_append, ← List.append_assoc] at nx2
              have hub : IntKind.u64.wrap (b : Int) = (b : Int) := wu64 (by omega) (by omega)
              have hpb := (pow_ok ⟨b, by omega⟩).2
              have hor3 := or3_ok ⟨c, hc⟩ ⟨n, by omega⟩ (by simp only; omega) ⟨b, by omega⟩ (by simp only; omega)
              simp only at hpb hor3
              refine Ev_round ?_
              simp only [spec_l04Turns.l2]
              rw [hpb, hor3, hub, w64 (x := (b : Int) + 1) (by omega) (by omega)]
              have hlt : (L ++ (List.range b).map (m3 c n)).length < 35184372088832 := by simp; omega
              refine Ev_pos (by omega) ?_
              by_cases e3 : r = 3
              · exact Ev_pos e3 (Ev_pos (by omega) (Ev_pos hlt nx2))
              · exact Ev_neg e3 (Ev_pos (by omega) (Ev_pos (by omega) (Ev_pos hlt nx2)))
          have := inner n 0 (by omega)
          rw [List.range_zero, List.map_nil, List.append_nil] at this
          exact this
        · have q3' : ¬ (r = 3 ∨ r = 5) := fun e => q3 (decide_eq_true e)
          rw [if_neg q3, List.append_nil] at nx
          refine Ev_round ?_
          simp only [spec_l04Turns.l2]
          rw [w64 (x := (n : Int) + 1) (by omega) (by omega)]
          refine Ev_ite' (fun _ => Ev_neg (by omega) (Ev_neg (by omega) nx)) (fun _ => nx)
      refine Ev_round ?_
      simp only [spec_l04Turns.l1]
      rw [hpn, hor, hun]
      refine Ev_pos (by omega) (Ev_pos (by omega) ?_)
      by_cases h5 : r = 5
      · refine Ev_pos h5 (fin _ ?_)
        have : k2 r = false := by rw [h5]; rfl
        rw [this]
        simp
      · have : k2 r = true := decide_eq_true (by omega)
        refine Ev_neg h5 (Ev_pos (by omega) (fin _ ?_))
        rw [this]
        simp
  have hj2 : Ev (fun k => spec_l04Turns.j2 k r (c : Int) (EP r c 0) (m1 c)) (EP r c c) := by
    refine Ev_round ?_
    simp only [spec_l04Turns.j2]
    exact outer c 0 (by omega)
  rw [EP_zero] at hj2
  have hj1 : ∀ b : Bool, b = k1 r → Ev (fun k => spec_l04Turns.j1 k r (c : Int) [] (m1 c) b) (EP r c c) := by
    intro b hb
    refine Ev_round ?_
    simp only [spec_l04Turns.j1]
    by_cases hk : k1 r = true
    · rw [if_pos hk] at hj2
      exact Ev_pos (by rw [hb, hk]) (Ev_pos (by simp) hj2)
    · rw [if_neg hk] at hj2
      exact Ev_neg (by rw [hb]; exact hk) hj2
  by_cases h1 : r = 1
  · exact Ev_pos h1 (hj1 true (by rw [h1]; rfl))
  · refine Ev_neg h1 (hj1 _ ?_)
    by_cases h3 : r = 3
    · rw [h3]; rfl
    · have : k1 r = false := decide_eq_false (by omega)
      rw [this]
      simpa using h3

/-- The sum of the values of the coins below n that a mask has. -/
def xsum (out : List Int) (m : Nat) : Nat → Int
  | 0 => 0
  | n + 1 => if m.testBit n = true then X (xsum out m n) (rd out (n : Int)) else xsum out m n
theorem xsum_succ (out : List Int) (m n : Nat) : xsum out m (n + 1) = if m.testBit n = true then X (xsum out m n) (rd out (n : Int)) else xsum out m n := rfl
theorem xsum_range (out : List Int) (h : ∀ x ∈ out, 0 ≤ x ∧ x ≤ 65535) (m : Nat) : ∀ n, n ≤ out.length → 0 ≤ xsum out m n ∧ xsum out m n ≤ 65535 := by
  intro n
  induction n with
  | zero => intro _; exact ⟨Int.le_refl _, by show (0 : Int) ≤ 65535; omega⟩
  | succ n ih =>
    intro hn
    have h1 := ih (by omega)
    rw [xsum_succ]
    split
    · exact X_range h1 (h _ (rd_mem (by omega) (by omega)))
    · exact h1
theorem xsum_congr (out : List Int) (m m' : Nat) : ∀ n, (∀ j, j < n → m.testBit j = m'.testBit j) → xsum out m n = xsum out m' n := by
  intro n
  induction n with
  | zero => intro _; rfl
  | succ n ih =>
    intro h
    rw [xsum_succ, xsum_succ]
    rw [h n (by omega), ih (fun j hj => h j (by omega))]
theorem xsum_skip (out : List Int) (m a : Nat) : ∀ n, a ≤ n → (∀ j, a ≤ j → j < n → m.testBit j = false) → xsum out m n = xsum out m a := by
  intro n
  induction n with
  | zero => intro h _; rw [show a = 0 by omega]
  | succ n ih =>
    intro h hb
    by_cases c : a = n + 1
    · rw [c]
    · have e := hb n (by omega) (by omega)
      rw [xsum_succ]
      rw [if_neg (by rw [e]; simp), ih (by omega) (fun j h1 h2 => hb j h1 (by omega))]
theorem spec_sum_ev (out : List Int) (m : Nat) (hm : m ≤ 4294967295) (hl : out.length ≤ 24) : Ev (fun k => spec_l04Sum.f k out (m : Int)) (xsum out m out.length) := by
  have main : ∀ (d n : Nat), n + d = out.length → Ev (fun k => spec_l04Sum.l0 k out (m : Int) (xsum out m n) (n : Int)) (xsum out m out.length) := by
    intro d
    induction d with
    | zero =>
      intro n h
      have e : n = out.length := by omega
      rw [e]
      refine Ev_round ?_
      simp only [spec_l04Sum.l0]
      exact Ev_neg (by omega) (Ev.now _)
    | succ d ih =>
      intro n h
      have nx := ih (n + 1) (by omega)
      rw [xsum_succ] at nx
      refine Ev_round ?_
      simp only [spec_l04Sum.l0]
      rw [wu64 (by omega) (by omega), bit_u32 m n hm (by omega), w64 (x := (n : Int) + 1) (by omega) (by omega)]
      refine Ev_pos (by omega) (Ev_pos (by omega) ?_)
      by_cases c : m.testBit n = true
      · rw [if_pos c] at nx
        exact Ev_pos (by simp [c]) (Ev_pos (by omega) nx)
      · rw [if_neg c] at nx
        exact Ev_neg (by simp [c]) nx
  exact main out.length 0 (by omega)

theorem least_ev (l : List Int) (hl : l.length ≤ 65535) (hr : ∀ x ∈ l, 0 ≤ x ∧ x ≤ 65535) : Ev (fun k => spec_l03Least.f k l) ((mexN l : Nat) : Int) := by
  have hm := mexN_is l
  have hle := mexN_le l
  have last : ∀ (d n : Nat), n + d = mexN l → Ev (fun k => spec_l03Least.l1 k (flags (l.length + 1) l) (n : Int)) ((mexN l : Nat) : Int) := by
    intro d
    induction d with
    | zero =>
      intro n h
      obtain rfl : n = mexN l := by omega
      refine Ev_round ?_
      simp only [spec_l03Least.l1]
      refine Ev_pos (by omega) (Ev_pos (by rw [flags_length]; omega) (Ev_neg ?_ ?_))
      · rw [rdOf, List.getD_eq_getElem?_getD, List.getElem?_eq_getElem (by rw [Int.toNat_natCast, flags_length]; omega), Option.getD_some, flags_get]
        simp [hm.1]
      · rw [wu16 (by omega) (by omega)]
        exact Ev.now _
    | succ d ih =>
      intro n h
      refine Ev_round ?_
      simp only [spec_l03Least.l1]
      refine Ev_pos (by omega) (Ev_pos (by rw [flags_length]; omega) (Ev_pos ?_ ?_))
      · rw [rdOf, List.getD_eq_getElem?_getD, List.getElem?_eq_getElem (by rw [Int.toNat_natCast, flags_length]; omega), Option.getD_some, flags_get]
        simp [hm.2 n (by omega)]
      · rw [w64 (by omega) (by omega)]
        exact ih (n + 1) (by omega)
  have main : ∀ (d n : Nat), n + d = l.length → Ev (fun k => spec_l03Least.l0 k l (flags (l.length + 1) (l.take n)) (n : Int)) ((mexN l : Nat) : Int) := by
    intro d
    induction d with
    | zero =>
      intro n h
      obtain rfl : n = l.length := by omega
      refine Ev_round ?_
      simp only [spec_l03Least.l0]
      refine Ev_neg (by omega) ?_
      rw [List.take_length]
      exact last (mexN l) 0 (by omega)
    | succ d ih =>
      intro n h
      have hn : n < l.length := by omega
      have hx := hr _ (List.getElem_mem hn)
      have ht : l.take (n + 1) = l.take n ++ [l[n]] := by rw [List.take_succ_eq_append_getElem hn]
      refine Ev_round ?_
      simp only [spec_l03Least.l0]
      refine Ev_pos (by omega) (Ev_pos (by omega) ?_)
      rw [rd_nat hn, w64 (by omega) (by omega), w64 (by omega) (by omega), flags_length]
      have nx := ih (n + 1) (by omega)
      rw [ht] at nx
      by_cases c : l[n] < ((l.length + 1 : Nat) : Int)
      · refine Ev_pos c (Ev_pos (by omega) (Ev_pos c ?_))
        rw [flags_set _ _ _ (by omega), Int.toNat_of_nonneg hx.1]
        exact nx
      · refine Ev_neg c ?_
        rw [flags_out _ _ _ (by omega)] at nx
        exact nx
  unfold spec_l03Least.f
  rw [w64 (by omega) (by omega)]
  refine Ev_pos (by omega) (Ev_pos (by omega) ?_)
  have := main l.length 0 (by omega)
  rw [List.take_zero, flags_nil] at this
  exact this

/-! The values of coins. -/
def CVrow (r : Int) (out : List Int) (c : Nat) : List Int := (turnL r c).map fun m => xsum out m.toNat c
def CV (r : Int) : Nat → List Int
  | 0 => []
  | n + 1 => CV r n ++ [((mexN (CVrow r (CV r n) n) : Nat) : Int)]
theorem CV_len (r : Int) (n : Nat) : (CV r n).length = n := by
  induction n with
  | zero => rfl
  | succ n ih => simp [CV, ih]
theorem mask_ok : ∀ r : Fin 6, ∀ c : Fin 24, (turnL (r.val : Int) c.val).all (fun m => decide (((2 ^ c.val : Nat) : Int) ≤ m ∧ m < ((2 ^ (c.val + 1) : Nat) : Int) ∧ Go.bits .andNot .u32 m (shl .u32 1 (c.val : Int)) = m - ((2 ^ c.val : Nat) : Int))) = true ∧ (turnL (r.val : Int) c.val).length < 300 := by decide +kernel
theorem mask_in (r : Int) (hr : 0 ≤ r ∧ r ≤ 5) (c : Nat) (hc : c < 24) : (∀ m ∈ turnL r c, ((2 ^ c : Nat) : Int) ≤ m ∧ m < ((2 ^ (c + 1) : Nat) : Int) ∧ Go.bits .andNot .u32 m (shl .u32 1 (c : Int)) = m - ((2 ^ c : Nat) : Int)) ∧ (turnL r c).length < 300 := by
  obtain ⟨R, rfl⟩ := Int.eq_ofNat_of_zero_le hr.1
  have h := mask_ok ⟨R, by omega⟩ ⟨c, hc⟩
  exact ⟨fun m hm => of_decide_eq_true (List.all_eq_true.1 h.1 m hm), h.2⟩
theorem pow24 (c : Nat) (hc : c < 24) : 2 ^ (c + 1) ≤ 16777216 := by
  have : 2 ^ (c + 1) ≤ 2 ^ 24 := Nat.pow_le_pow_right (by omega) (by omega)
  omega
theorem CV_range (r : Int) (hr : 0 ≤ r ∧ r ≤ 5) (n : Nat) (hn : n ≤ 24) : ∀ x ∈ CV r n, 0 ≤ x ∧ x ≤ 65535 := by
  induction n with
  | zero => intro x hx; simp [CV] at hx
  | succ n ih =>
    intro x hx
    unfold CV at hx
    rcases List.mem_append.1 hx with hx | hx
    · exact ih (by omega) x hx
    · rw [List.mem_singleton.1 hx]
      have h1 := mexN_le (CVrow r (CV r n) n)
      have h2 := (mask_in r hr n (by omega)).2
      unfold CVrow at h1
      rw [List.length_map] at h1
      unfold CVrow
      omega
theorem CVrow_range (r : Int) (hr : 0 ≤ r ∧ r ≤ 5) (n : Nat) (hn : n < 24) : ∀ x ∈ CVrow r (CV r n) n, 0 ≤ x ∧ x ≤ 65535 := by
  intro x hx
  obtain ⟨m, _, rfl⟩ := List.mem_map.1 hx
  exact xsum_range _ (CV_range r hr n (by omega)) _ n (by rw [CV_len]; omega)
theorem spec_values_ev (r : Int) (hr : 0 ≤ r ∧ r ≤ 5) (N : Nat) (hN : N ≤ 24) : Ev (fun k => spec_l04Values.f k r (N : Int)) (CV r N) := by
  have outer : ∀ (d c : Nat), c + d = N → Ev (fun k => spec_l04Values.l0 k r (N : Int) (CV r c) (c : Int)) (CV r N) := by
    intro d
    induction d with
    | zero =>
      intro c hc
      obtain rfl : c = N := by omega
      refine Ev_round ?_
      simp only [spec_l04Values.l0]
      exact Ev_neg (by omega) (Ev.now _)
    | succ d ih =>
      intro c hc
      have nx := ih (c + 1) (by omega)
      have hcl := CV_len r c
      obtain ⟨hm, hlen⟩ := mask_in r hr c (by omega)
      have h24 := pow24 c (by omega)
      have loop : ∀ (e n : Nat), n + e = (turnL r c).length → Ev (fun k => spec_l04Values.l1 k r (N : Int) (CV r c) (c : Int) (((turnL r c).take n).map fun m => xsum (CV r c) m.toNat c) (turnL r c) (n : Int)) (CV r N) := by
        intro e
        induction e with
        | zero =>
          intro n hn
          rw [List.take_of_length_le (by omega)]
          have hl : (CVrow r (CV r c) c).length < 300 := by unfold CVrow; rw [List.length_map]; exact hlen
          have hml := mexN_le (CVrow r (CV r c) c)
          refine Ev_round ?_
          simp only [spec_l04Values.l1]
          refine Ev_neg (by omega) (Ev.bind (least_ev (CVrow r (CV r c) c) (by omega) (CVrow_range r hr c (by omega))) (Ev_pos (by rw [hcl]; omega) ?_))
          rw [w64 (by omega) (by omega)]
          exact nx
        | succ e ihe =>
          intro n hn
          have hlt : n < (turnL r c).length := by omega
          have nx2 := ihe (n + 1) (by omega)
          rw [List.take_succ_eq_append_getElem hlt, List.map_append] at nx2
          obtain ⟨g1, g2, _⟩ := hm _ (List.getElem_mem hlt)
          have hsum := spec_sum_ev (CV r c) ((turnL r c)[n]).toNat (by omega) (by rw [hcl]; omega)
          rw [hcl, Int.toNat_of_nonneg (by omega)] at hsum
          refine Ev_round ?_
          simp only [spec_l04Values.l1]
          rw [rd_nat hlt, w64 (x := (n : Int) + 1) (by omega) (by omega)]
          exact Ev_pos (by omega) (Ev_pos (by omega) (Ev.bind hsum (Ev_pos (by rw [List.length_map, List.length_take]; omega) nx2)))
      have hin := loop _ 0 (Nat.zero_add _)
      rw [List.take_zero, List.map_nil] at hin
      refine Ev_round ?_
      simp only [spec_l04Values.l0]
      exact Ev_pos (by omega) (Ev.bind (spec_turns_ev r hr c (by omega)) hin)
  exact outer N 0 (by omega)

theorem tz_tab : ∀ t : Nat, t < 32 → tz32tab.getD (2 ^ t * 125613361 % 4294967296 / 134217728) 0 = (t : Int) := by decide +kernel
theorem tz_nat (x t q : Nat) (hx : x = 2 ^ t * (2 * q + 1)) (h : x < 4294967296) (ht : t < 32) : bits_TrailingZeros32.f (x : Int) = some (t : Int) := by
  have hp := Nat.two_pow_pos t
  have h0 : 2 ^ t ≤ x := by rw [hx]; exact Nat.le_mul_of_pos_right _ (by omega)
  unfold bits_TrailingZeros32.f
  rw [if_neg (by omega), show -(x : Int) % 4294967296 = ((4294967296 - x : Nat) : Int) by omega, u32_and_nat x (4294967296 - x) h (by omega)]
  have hq : q < 2 ^ (31 - t) := by
    have : 2 ^ t * (2 * q + 1) < 2 ^ t * 2 ^ (32 - t) := by rw [← Nat.pow_add, show t + (32 - t) = 32 by omega, ← hx]; exact h
    have := Nat.lt_of_mul_lt_mul_left this
    rw [show 32 - t = (31 - t) + 1 by omega, Nat.pow_succ] at this
    omega
  have hl := low_and t (31 - t) q hq
  rw [show t + (31 - t) + 1 = 32 by omega, ← hx, show (2 : Nat) ^ 32 = 4294967296 from rfl] at hl
  rw [hl]
  have e : (((2 ^ t : Nat) : Int) * 125613361 % 4294967296 / 134217728).toNat = 2 ^ t * 125613361 % 4294967296 / 134217728 := by
    rw [show ((2 ^ t : Nat) : Int) * 125613361 = ((2 ^ t * 125613361 : Nat) : Int) from (Int.natCast_mul (2 ^ t) 125613361).symm]
    generalize 2 ^ t * 125613361 = Y
    omega
  rw [e]
  exact congrArg some (tz_tab t ht)




theorem less32 (x y : Int) : cmp_Less_uint32.f x y = some (decide (x < y)) := by
  unfold cmp_Less_uint32.f cmp_isNaN_uint32.f
  simp
theorem rise_at {l : List Int} (hp : l.Pairwise (· ≤ ·)) (i : Nat) (h : i + 1 < l.length) : rd l (i : Int) ≤ rd l ((i + 1 : Nat) : Int) := by
  rw [rd_nat (by omega), rd_nat h]
  exact List.pairwise_iff_getElem.1 hp i (i + 1) (by omega) h (by omega)
theorem insertion_ev (l : List Int) (hp : l.Pairwise (· ≤ ·)) (hl : l.length ≤ 1000) : Ev (fun k => slices_insertionSortOrdered_uint32.f k l 0 (l.length : Int)) l := by
  have main : ∀ (d n : Nat), n + 1 + d = max l.length 1 → Ev (fun k => slices_insertionSortOrdered_uint32.l0 k l 0 (l.length : Int) ((n + 1 : Nat) : Int)) l := by
    intro d
    induction d with
    | zero =>
      intro n h
      refine Ev_round ?_
      simp only [slices_insertionSortOrdered_uint32.l0]
      exact Ev_neg (by omega) (Ev.now _)
    | succ d ih =>
      intro n h
      have hn : n + 1 < l.length := by omega
      have hr := rise_at hp n hn
      refine Ev_round ?_
      simp only [slices_insertionSortOrdered_uint32.l0]
      refine Ev_pos (by omega) (Ev_round ?_)
      simp only [slices_insertionSortOrdered_uint32.l1]
      rw [w64 (x := ((n + 1 : Nat) : Int) - 1) (by omega) (by omega), w64 (x := ((n + 1 : Nat) : Int) + 1) (by omega) (by omega), show ((n + 1 : Nat) : Int) - 1 = (n : Int) by omega, show ((n + 1 : Nat) : Int) + 1 = ((n + 1 + 1 : Nat) : Int) by omega]
      refine Ev_pos (by omega) (Ev_pos (by omega) (Ev_pos (by omega) (Ev_pos (by omega) (Ev_pos (by omega) (Ev_bind1 (less32 _ _) (Ev_neg (by simpa using hr) ?_))))))
      exact ih (n + 1) (by omega)
  have := main (max l.length 1 - 1) 0 (by omega)
  unfold slices_insertionSortOrdered_uint32.f
  rw [w64 (x := (0 : Int) + 1) (by omega) (by omega)]
  exact this
theorem partial_ev (l : List Int) (hp : l.Pairwise (· ≤ ·)) (h1 : 1 ≤ l.length) (hl : l.length ≤ 1000) : Ev (fun k => slices_partialInsertionSortOrdered_uint32.f k l 0 (l.length : Int)) (true, l) := by
  have main : ∀ (d n : Nat), n + 1 + d = l.length → Ev (fun k => slices_partialInsertionSortOrdered_uint32.l1 k l 0 (l.length : Int) ((n + 1 : Nat) : Int) 0) (true, l) := by
    intro d
    induction d with
    | zero =>
      intro n h
      refine Ev_round ?_
      simp only [slices_partialInsertionSortOrdered_uint32.l1]
      refine Ev_neg (by omega) (Ev_round ?_)
      simp only [slices_partialInsertionSortOrdered_uint32.j2]
      exact Ev_pos (by omega) (Ev.now _)
    | succ d ih =>
      intro n h
      have hn : n + 1 < l.length := by omega
      have hr := rise_at hp n hn
      refine Ev_round ?_
      simp only [slices_partialInsertionSortOrdered_uint32.l1]
      rw [w64 (x := ((n + 1 : Nat) : Int) - 1) (by omega) (by omega), w64 (x := ((n + 1 : Nat) : Int) + 1) (by omega) (by omega), show ((n + 1 : Nat) : Int) - 1 = (n : Int) by omega, show ((n + 1 : Nat) : Int) + 1 = ((n + 1 + 1 : Nat) : Int) by omega]
      refine Ev_pos (by omega) (Ev_pos (by omega) (Ev_pos (by omega) (Ev_pos (by omega) (Ev_pos (by omega) (Ev_bind1 (less32 _ _) (Ev_neg (by simpa using hr) ?_))))))
      exact ih (n + 1) (by omega)
  unfold slices_partialInsertionSortOrdered_uint32.f
  rw [w64 (x := (0 : Int) + 1) (by omega) (by omega)]
  refine Ev_round ?_
  simp only [slices_partialInsertionSortOrdered_uint32.l0]
  exact Ev_pos (by omega) (main (l.length - 1) 0 (by omega))
theorem rise_le {l : List Int} (hp : l.Pairwise (· ≤ ·)) (i j : Int) (h0 : 0 ≤ i) (h1 : i ≤ j) (h2 : j < (l.length : Int)) : rd l i ≤ rd l j := by
  obtain ⟨a, rfl⟩ := Int.eq_ofNat_of_zero_le h0
  obtain ⟨b, rfl⟩ := Int.eq_ofNat_of_zero_le (Int.le_trans h0 h1)
  rw [rd_nat (show a < l.length by omega), rd_nat (show b < l.length by omega)]
  rcases Nat.lt_or_eq_of_le (show a ≤ b by omega) with c | c
  · exact List.pairwise_iff_getElem.1 hp a b (by omega) (by omega) c
  · subst c
    exact Int.le_refl _
theorem md_rise {l : List Int} (hp : l.Pairwise (· ≤ ·)) (a b c s : Int) (h0 : 0 ≤ a) (h1 : a ≤ b) (h2 : b ≤ c) (h3 : c < (l.length : Int)) : slices_choosePivotOrdered_uint32.md l a b c s = (b, s) := by
  have e1 : slices_choosePivotOrdered_uint32.o2 l a b = (a, b) := if_neg (by have := rise_le hp a b h0 h1 (by omega); omega)
  have e2 : slices_choosePivotOrdered_uint32.o2 l b c = (b, c) := if_neg (by have := rise_le hp b c (by omega) h2 h3; omega)
  have f1 : slices_choosePivotOrdered_uint32.os l a b = 0 := if_neg (by have := rise_le hp a b h0 h1 (by omega); omega)
  have f2 : slices_choosePivotOrdered_uint32.os l b c = 0 := if_neg (by have := rise_le hp b c (by omega) h2 h3; omega)
  unfold slices_choosePivotOrdered_uint32.md
  rw [e1]
  simp only
  rw [e2]
  simp only
  rw [e1, f1, f2]
  simp
theorem choose_rise {l : List Int} (hp : l.Pairwise (· ≤ ·)) (h1 : 13 ≤ l.length) (h2 : l.length ≤ 900) : ∃ m, slices_choosePivotOrdered_uint32.f l 0 (l.length : Int) = some (m, 1) := by
  have hmid : ∀ i j k n : Int, 1 ≤ i → i + 1 ≤ j → j + 1 ≤ k → k + 1 < (l.length : Int) → slices_choosePivotOrdered_uint32.mid l i j k n = (j, 0) := by
    intro i j k n a b c d
    unfold slices_choosePivotOrdered_uint32.mid
    by_cases q : n ≥ 50
    · rw [if_pos q, md_rise hp (i - 1) i (i + 1) 0 (by omega) (by omega) (by omega) (by omega)]
      simp only
      rw [md_rise hp (j - 1) j (j + 1) 0 (by omega) (by omega) (by omega) (by omega)]
      simp only
      rw [md_rise hp (k - 1) k (k + 1) 0 (by omega) (by omega) (by omega) (by omega)]
      exact md_rise hp i j k 0 (by omega) (by omega) (by omega) (by omega)
    · rw [if_neg q]
      exact md_rise hp i j k 0 (by omega) (by omega) (by omega) (by omega)
  unfold slices_choosePivotOrdered_uint32.f
  rw [if_pos ⟨by omega, by omega, by omega, by omega⟩, hmid _ _ _ _ (by omega) (by omega) (by omega) (by omega)]
  exact ⟨0 + ((l.length : Int) - 0) / 4 * 2, by simp⟩
theorem pdq_ev (l : List Int) (hp : l.Pairwise (· ≤ ·)) (hl : l.length ≤ 900) (L : Int) (hL : 12 < l.length → L ≠ 0) : Ev (fun k => slices_pdqsortOrdered_uint32.f k l 0 (l.length : Int) L) l := by
  refine Ev_round ?_
  simp only [slices_pdqsortOrdered_uint32.f]
  refine Ev_round ?_
  simp only [slices_pdqsortOrdered_uint32.l0]
  rw [w64 (x := (l.length : Int) - 0) (by omega) (by omega)]
  by_cases c : l.length ≤ 12
  · exact Ev_pos (by omega) (Ev.bind (insertion_ev l hp (by omega)) (Ev.now _))
  refine Ev_neg (by omega) (Ev_neg (hL (by omega)) (Ev_pos (by simp) (Ev_round ?_)))
  simp only [slices_pdqsortOrdered_uint32.j1]
  obtain ⟨m, hm⟩ := choose_rise hp (by omega) hl
  refine Ev_bind1 hm (Ev_neg (by simp) (Ev_round ?_))
  simp only [slices_pdqsortOrdered_uint32.j2]
  refine Ev_pos (by simp) (Ev_pos (by simp) (Ev_round ?_))
  simp only [slices_pdqsortOrdered_uint32.j3]
  exact Ev_pos (by simp) (Ev.bind (partial_ev l hp (by omega) (by omega)) (Ev_pos (by simp) (Ev.now _)))
theorem len_all : ∀ m : Fin 300, (match bits_Len.f 3 ((m.val : Nat) : Int) with | some L => decide (12 < m.val → L ≠ 0) | none => false) = true := by decide +kernel
theorem len_ev (n : Nat) (hn : n < 300) : ∃ L, Ev (fun k => bits_Len.f k (IntKind.u64.wrap (n : Int))) L ∧ (12 < n → L ≠ 0) := by
  rw [wu64 (by omega) (by omega)]
  have h := len_all ⟨n, hn⟩
  simp only at h
  split at h
  · rename_i L hL
    exact ⟨L, Ev_mono (fun k => bits_Len.mono _ _) 3 hL, of_decide_eq_true h⟩
  · cases h
theorem sort32_ev (l : List Int) (hp : l.Pairwise (· ≤ ·)) (hl : l.length < 300) : Ev (fun k => slices_Sort_uint32_uint32.f k l) l := by
  obtain ⟨L, h1, h2⟩ := len_ev l.length hl
  exact Ev.bind h1 (Ev.bind (pdq_ev l hp (by omega) L h2) (Ev.now _))

theorem compact32_ev (l : List Int) (hp : l.Pairwise (· < ·)) (hl : l.length ≤ 1000) : Ev (fun k => slices_Compact_uint32_uint32.f k l) l := by
  by_cases c : (l.length : Int) < 2
  · exact Ev_pos c (Ev.now _)
  have main : ∀ (d n : Nat), n + 1 + d = l.length → Ev (fun k => slices_Compact_uint32_uint32.l0 k l ((n + 1 : Nat) : Int)) l := by
    intro d
    induction d with
    | zero =>
      intro n h
      refine Ev_round ?_
      simp only [slices_Compact_uint32_uint32.l0]
      exact Ev_neg (by omega) (Ev.now _)
    | succ d ih =>
      intro n h
      have hn : n + 1 < l.length := by omega
      have := List.pairwise_iff_getElem.1 hp n (n + 1) (by omega) hn (by omega)
      refine Ev_round ?_
      simp only [slices_Compact_uint32_uint32.l0]
      rw [w64 (x := ((n + 1 : Nat) : Int) - 1) (by omega) (by omega), w64 (x := ((n + 1 : Nat) : Int) + 1) (by omega) (by omega), show ((n + 1 : Nat) : Int) - 1 = (n : Int) by omega, rd_nat hn, rd_nat (show n < l.length by omega)]
      exact Ev_pos (by omega) (Ev_pos (by omega) (Ev_pos (by omega) (Ev_pos (by omega) (Ev_neg (by omega) (ih (n + 1) (by omega))))))
  exact Ev_neg c (main (l.length - 1) 0 (by omega))

theorem may1_ok : ∀ r : Fin 6, r.val ≠ 4 → ∀ c : Fin 24, impl_mayTurn.f 2 (r.val : Int) (m1 c.val) = some (k1 (r.val : Int)) := by decide +kernel
theorem may2_ok : ∀ r : Fin 6, r.val ≠ 4 → ∀ c : Fin 24, ∀ a : Fin 24, a.val < c.val → impl_mayTurn.f 2 (r.val : Int) (m2 c.val a.val) = some (k2 (r.val : Int)) := by decide +kernel
theorem may3_ok : ∀ r : Fin 6, r.val ≠ 4 → ∀ c : Fin 24, ∀ a : Fin 24, a.val < c.val → ∀ b : Fin 24, b.val < a.val → impl_mayTurn.f 2 (r.val : Int) (m3 c.val a.val b.val) = some (k3 (r.val : Int)) := by decide +kernel
theorem may4_ok : ∀ c : Fin 24, impl_mayTurn.f 2 4 (m1 c.val) = some true ∧ ∀ a : Fin 24, a.val < c.val → ((m1 c.val * 2 - 2 ^ a.val) % 4294967296 = ((2 ^ (c.val + 1) - 2 ^ a.val : Nat) : Int) ∧ impl_mayTurn.f 2 4 ((2 ^ (c.val + 1) - 2 ^ a.val : Nat) : Int) = some true) := by decide +kernel
theorem rul_sort_ok : ∀ c : Fin 24, slices_Sort_uint32_uint32.f 100 (rulL c.val) = some (rulS c.val) := by decide +kernel
/-- Does a list rise? -/
def chk : List Int → Bool
  | [] => true
  | [_] => true
  | x :: y :: t => decide (x < y) && chk (y :: t)
theorem chk_rise : ∀ l : List Int, chk l = true → l.Pairwise (· < ·) := by
  intro l
  induction l with
  | nil => intro _; exact List.Pairwise.nil
  | cons x t ih =>
    intro h
    cases t with
    | nil => exact List.pairwise_singleton _ _
    | cons y t =>
      simp only [chk, Bool.and_eq_true, decide_eq_true_eq] at h
      have h2 := ih h.2
      rw [List.pairwise_cons]
      refine ⟨fun z hz => ?_, h2⟩
      rcases List.mem_cons.1 hz with e | e
      · rw [e]; exact h.1
      · exact Int.lt_trans h.1 ((List.pairwise_cons.1 h2).1 z e)
theorem rise_ok : ∀ r : Fin 6, ∀ c : Fin 24, chk (turnL (r.val : Int) c.val) = true ∧ (turnL (r.val : Int) c.val).length < 300 := by decide +kernel
theorem turnL_rise (r : Int) (hr : 0 ≤ r ∧ r ≤ 5) (c : Nat) (hc : c < 24) : (turnL r c).Pairwise (· < ·) ∧ (turnL r c).length < 300 := by
  obtain ⟨R, rfl⟩ := Int.eq_ofNat_of_zero_le hr.1
  have := rise_ok ⟨R, by omega⟩ ⟨c, hc⟩
  exact ⟨chk_rise _ this.1, this.2⟩
theorem add_ev {r m : Int} {b : Bool} (l : List Int) (h : impl_mayTurn.f 2 r m = some b) : Ev (fun k => impl_turnsAt.add k r l m) (if b = true then l ++ [m] else l) := by
  unfold impl_turnsAt.add
  exact Ev.bind (Ev_mono (fun k => impl_mayTurn.mono _ _ _) 2 h) (Ev.now _)
theorem in_ev (R : Nat) (hR : R < 6) (h4 : R ≠ 4) (c a : Nat) (hc : c < 24) (ha : a < c) : ∀ (d b : Nat) (l : List Int), b + d = a → Ev (fun k => impl_turnsAt.in k (R : Int) (m2 c a) d b l) (l ++ if k3 (R : Int) then (List.range' b d).map (m3 c a) else []) := by
  intro d
  induction d with
  | zero =>
    intro b l _
    refine Ev_as (Ev.now _) ?_
    simp
  | succ d ih =>
    intro b l hb
    have hp := (pow_ok ⟨b, by omega⟩).1
    have ho := or3_ok ⟨c, hc⟩ ⟨a, by omega⟩ ha ⟨b, by omega⟩ (by simp only; omega)
    have hm := may3_ok ⟨R, hR⟩ h4 ⟨c, hc⟩ ⟨a, by omega⟩ ha ⟨b, by omega⟩ (by simp only; omega)
    simp only at hp ho hm
    show Ev (fun k => (impl_turnsAt.add k (R : Int) l (Go.bits .or .u32 (m2 c a) (2 ^ b % 4294967296))).bind fun l' => impl_turnsAt.in k (R : Int) (m2 c a) d (b + 1) l') _
    rw [hp, ho]
    refine Ev.bind (add_ev l hm) (Ev_as (ih (b + 1) _ (by omega)) ?_)
    by_cases q : k3 (R : Int) = true
    · simp [q, List.range'_succ]
    · simp [q]
theorem out_ev (R : Nat) (hR : R < 6) (h4 : R ≠ 4) (c : Nat) (hc : c < 24) : ∀ (d n : Nat), n + d = c → Ev (fun k => impl_turnsAt.out k (R : Int) (m1 c) d n (EP (R : Int) c n)) (EP (R : Int) c c) := by
  intro d
  induction d with
  | zero =>
    intro n hn
    obtain rfl : n = c := by omega
    exact Ev.now _
  | succ d ih =>
    intro n hn
    have hp := (pow_ok ⟨n, by omega⟩).1
    have ho := or2_ok ⟨c, hc⟩ ⟨n, by omega⟩ (by simp only; omega)
    have hm := may2_ok ⟨R, hR⟩ h4 ⟨c, hc⟩ ⟨n, by omega⟩ (by simp only; omega)
    simp only at hp ho hm
    have nx := ih (n + 1) (by omega)
    rw [EP_succ] at nx
    unfold impl_turnsAt.out
    refine Ev_neg (by omega) ?_
    rw [hp, ho]
    refine Ev.bind (add_ev _ hm) (Ev.bind (in_ev R hR h4 c n hc (by omega) n 0 _ (by omega)) (Ev.congr (fun k => ?_) nx))
    congr 1
    unfold rowT
    rw [← List.append_assoc, List.range_eq_range']
    by_cases q : k2 (R : Int) = true
    · simp [q]
    · simp [q]
theorem out4_ev (c : Nat) (hc : c < 24) : ∀ (d n : Nat) (l : List Int), n + d = c → Ev (fun k => impl_turnsAt.out k 4 (m1 c) d n l) (l ++ (List.range' n d).map fun a => ((2 ^ (c + 1) - 2 ^ a : Nat) : Int)) := by
  intro d
  induction d with
  | zero =>
    intro n l hn
    refine Ev_as (Ev.now _) ?_
    simp
  | succ d ih =>
    intro n l hn
    have hm := (may4_ok ⟨c, hc⟩).2 ⟨n, by omega⟩ (by simp only; omega)
    simp only at hm
    unfold impl_turnsAt.out
    refine Ev_pos rfl ?_
    rw [hm.1]
    refine Ev.bind (add_ev l hm.2) (Ev_as (ih (n + 1) _ (by omega)) ?_)
    simp [List.range'_succ]
theorem turns_ev (r : Int) (hr : 0 ≤ r ∧ r ≤ 5) (c : Nat) (hc : c < 24) : Ev (fun k => impl_turnsAt.f k r (c : Int)) (turnL r c) := by
  obtain ⟨R, rfl⟩ := Int.eq_ofNat_of_zero_le hr.1
  have hp := (pow_ok ⟨c, hc⟩).1
  simp only at hp
  obtain ⟨hrise, hlen⟩ := turnL_rise (R : Int) hr c hc
  have hcomp := compact32_ev (turnL (R : Int) c) hrise (by omega)
  unfold impl_turnsAt.f
  rw [Int.toNat_natCast, hp]
  refine Ev_pos (by omega) (Ev_pos (by omega) ?_)
  by_cases h4 : R = 4
  · subst h4
    refine Ev.bind (add_ev [] (may4_ok ⟨c, hc⟩).1) (Ev.bind (out4_ev c hc c 0 _ (by omega)) ?_)
    have e : (([] : List Int) ++ [m1 c]) ++ ((List.range' 0 c).map fun a => ((2 ^ (c + 1) - 2 ^ a : Nat) : Int)) = rulL c := by
      rw [← List.range_eq_range']
      rfl
    have hs : Ev (fun k => slices_Sort_uint32_uint32.f k (rulL c)) (rulS c) := Ev_mono (fun k => slices_Sort_uint32_uint32.mono _ _) 100 (rul_sort_ok ⟨c, hc⟩)
    rw [if_pos rfl, e]
    exact Ev.bind hs (Ev.bind hcomp (Ev.now _))
  · have e4 : turnL (R : Int) c = EP (R : Int) c c := if_neg (by omega)
    rw [e4] at hrise hlen hcomp ⊢
    have ho := out_ev R (by omega) h4 c hc c 0 (by omega)
    rw [EP_zero] at ho
    have ha := add_ev [] (may1_ok ⟨R, by omega⟩ h4 ⟨c, hc⟩)
    simp only [List.nil_append] at ha
    refine Ev.bind ha (Ev.bind ho (Ev.bind (sort32_ev _ (hrise.imp (fun h => Int.le_of_lt h)) hlen) (Ev.bind hcomp (Ev.now _))))

theorem clear_low (t q : Nat) : (2 ^ t * (2 * q + 1)) &&& (2 ^ t * (2 * q + 1) - 1) = 2 ^ (t + 1) * q := by
  have hp := Nat.two_pow_pos t
  have e1 : 2 ^ t * (2 * q + 1) = 2 ^ (t + 1) * q + 2 ^ t := by
    rw [Nat.pow_succ, Nat.mul_add, ← Nat.mul_assoc, Nat.mul_one]
  have e2 : 2 ^ t * (2 * q + 1) - 1 = 2 ^ (t + 1) * q + (2 ^ t - 1) := by omega
  have l1 : 2 ^ t < 2 ^ (t + 1) := Nat.pow_lt_pow_right (by omega) (by omega)
  rw [e2, e1]
  apply Nat.eq_of_testBit_eq
  intro j
  rw [Nat.testBit_and, Nat.testBit_two_pow_mul_add _ l1, Nat.testBit_two_pow_mul_add _ (by omega), Nat.testBit_two_pow_mul]
  by_cases c : j < t + 1
  · rw [if_pos c, if_pos c, Nat.testBit_two_pow, Nat.testBit_two_pow_sub_one]
    have : decide (j ≥ t + 1) = false := decide_eq_false (by omega)
    rw [this]
    by_cases c2 : t = j
    · simp [c2]
    · simp [c2]
  · rw [if_neg c, if_neg c]
    have : decide (j ≥ t + 1) = true := decide_eq_true (by omega)
    rw [this]
    simp
theorem rowOf_ev (out : List Int) (m : Nat) (hm : m < 2 ^ out.length) (hl : out.length ≤ 24) : Ev (fun k => impl_rowOf.f k out (m : Int)) (xsum out m out.length) := by
  have h24 : 2 ^ out.length ≤ 2 ^ 24 := Nat.pow_le_pow_right (by omega) hl
  have main : ∀ (d t0 m' : Nat), t0 + d = out.length → m' < 2 ^ out.length → (∀ j, m'.testBit j = (decide (t0 ≤ j) && m.testBit j)) → Ev (fun k => impl_rowOf.l0 k out (m' : Int) (xsum out m t0)) (xsum out m out.length) := by
    intro d
    induction d using Nat.strongRecOn with
    | ind d ih =>
      intro t0 m' hd hm' hb
      refine Ev_round ?_
      simp only [impl_rowOf.l0]
      by_cases z : m' = 0
      · subst z
        refine Ev_pos rfl (Ev_as (Ev.now _) ?_)
        refine (xsum_skip out m t0 out.length (by omega) (fun j h1 h2 => ?_)).symm
        have := hb j
        rw [Nat.zero_testBit, decide_eq_true h1, Bool.true_and] at this
        exact this.symm
      · obtain ⟨t, q, hq⟩ := split_low m' (by omega)
        have hp := Nat.two_pow_pos t
        have h0 : 2 ^ t ≤ m' := by rw [hq]; exact Nat.le_mul_of_pos_right _ (by omega)
        have htl : t < out.length := (Nat.pow_lt_pow_iff_right (by omega)).1 (Nat.lt_of_le_of_lt h0 hm')
        have e1 : m' = 2 ^ (t + 1) * q + 2 ^ t := by
          rw [hq, Nat.pow_succ, Nat.mul_add, ← Nat.mul_assoc, Nat.mul_one]
        have l1 : 2 ^ t < 2 ^ (t + 1) := Nat.pow_lt_pow_right (by omega) (by omega)
        have bt : ∀ j, m'.testBit j = if j < t + 1 then decide (t = j) else q.testBit (j - (t + 1)) := by
          intro j
          rw [e1, Nat.testBit_two_pow_mul_add _ l1, Nat.testBit_two_pow]
        have htt : m'.testBit t = true := by rw [bt, if_pos (by omega)]; simp
        have ht0 : t0 ≤ t ∧ m.testBit t = true := by
          have := hb t
          rw [htt] at this
          have := this.symm
          rw [Bool.and_eq_true, decide_eq_true_eq] at this
          exact this
        have hsk : xsum out m t = xsum out m t0 := xsum_skip out m t0 t ht0.1 (fun j h1 h2 => by
          have := hb j
          rw [bt, if_pos (by omega), decide_eq_true h1, Bool.true_and] at this
          rw [← this]
          exact decide_eq_false (by omega))
        have hnx : xsum out m (t + 1) = X (xsum out m t0) (rd out (t : Int)) := by
          show (if m.testBit t = true then X (xsum out m t) (rd out (t : Int)) else xsum out m t) = _
          rw [if_pos ht0.2, hsk]
        have hcl := clear_low t q
        rw [← hq] at hcl
        have hand : Go.bits .and .u32 (m' : Int) (((m' : Int) - 1) % 4294967296) = ((2 ^ (t + 1) * q : Nat) : Int) := by
          rw [show ((m' : Int) - 1) % 4294967296 = ((m' - 1 : Nat) : Int) by omega, u32_and_nat m' (m' - 1) (by omega) (by omega), hcl]
        have nx := ih (out.length - (t + 1)) (by omega) (t + 1) (2 ^ (t + 1) * q) (by omega) (by omega) (fun j => by
          rw [Nat.testBit_two_pow_mul]
          by_cases c : t + 1 ≤ j
          · have h3 := bt j
            rw [if_neg (by omega), hb j, decide_eq_true (show t0 ≤ j by omega), Bool.true_and] at h3
            rw [decide_eq_true (show j ≥ t + 1 from c), Bool.true_and, Bool.true_and, h3]
          · rw [decide_eq_false (show ¬ j ≥ t + 1 from c), Bool.false_and, Bool.false_and])
        rw [hnx] at nx
        refine Ev_neg (by omega) (Ev_bind1 (tz_nat m' t q hq (by omega) (by omega)) ?_)
        rw [hand]
        exact Ev_pos (by omega) (Ev_pos (by omega) nx)
  exact main out.length 0 m (by omega) hm (fun j => by simp)

theorem index_false_ev (fl : List Bool) (n : Nat) (hn : n < fl.length) (hl : fl.length ≤ 9223372036854775806) (h1 : fl[n] = false) (h2 : ∀ m (hm : m < n), fl[m] = true) :
    Ev (fun k => slices_Index_bool_bool.f k fl false) (n : Int) := by
  have main : ∀ (d m : Nat), m + d = n → Ev (fun k => slices_Index_bool_bool.l0 k fl false fl.length (m : Int)) (n : Int) := by
    intro d
    induction d with
    | zero =>
      intro m hm
      obtain rfl : m = n := by omega
      refine Ev_round ?_
      simp only [slices_Index_bool_bool.l0]
      refine Ev_pos (by omega) (Ev_pos (by omega) (Ev_pos (by omega) (Ev_pos ?_ (Ev.now _))))
      simp [rdOf, List.getD_eq_getElem?_getD, List.getElem?_eq_getElem hn, h1]
    | succ d ih =>
      intro m hm
      refine Ev_round ?_
      simp only [slices_Index_bool_bool.l0]
      refine Ev_pos (by omega) (Ev_pos (by omega) (Ev_pos (by omega) (Ev_neg ?_ ?_)))
      · simp [rdOf, List.getD_eq_getElem?_getD, List.getElem?_eq_getElem (show m < fl.length by omega), h2 m (by omega)]
      · rw [w64 (by omega) (by omega)]
        exact ih (m + 1) (by omega)
  exact main n 0 (by omega)

theorem mex_index (l : List Int) : (mexN l < (flags (l.length + 1) l).length) ∧ (∀ h, (flags (l.length + 1) l)[mexN l]'h = false) ∧ ∀ m (hm : m < mexN l) h, (flags (l.length + 1) l)[m]'h = true := by
  have hm := mexN_is l
  have hle := mexN_le l
  refine ⟨by rw [flags_length]; omega, fun h => ?_, fun m hlt h => ?_⟩
  · rw [flags_get]; simp [hm.1]
  · rw [flags_get]; simp [hm.2 m hlt]
theorem impl_mex_ev (l : List Int) (hl : l.length ≤ 140737488355327) (hr : ∀ x ∈ l, 0 ≤ x ∧ x ≤ 65535) : Ev (fun k => impl_mex.f k l) ((mexN l : Nat) : Int) := by
  have main : ∀ (d n : Nat), n + d = l.length → Ev (fun k => impl_mex.l0 k (flags (l.length + 1) (l.take n)) l l.length (n : Int)) ((mexN l : Nat) : Int) := by
    intro d
    induction d with
    | zero =>
      intro n h
      obtain rfl : n = l.length := by omega
      refine Ev_round ?_
      simp only [impl_mex.l0]
      refine Ev_neg (by omega) (Ev.bind ?_ (Ev.now _))
      rw [List.take_length]
      obtain ⟨a, b, c⟩ := mex_index l
      exact index_false_ev _ _ a (by rw [flags_length]; omega) (b a) (fun m hm => c m hm (by omega))
    | succ d ih =>
      intro n h
      have hn : n < l.length := by omega
      have hx := hr _ (List.getElem_mem hn)
      have ht : l.take (n + 1) = l.take n ++ [l[n]] := by rw [List.take_succ_eq_append_getElem hn]
      refine Ev_round ?_
      simp only [impl_mex.l0]
      refine Ev_pos (by omega) (Ev_pos (by omega) (Ev_pos (by omega) ?_))
      rw [rd_nat hn, w64 (by omega) (by omega), w64 (by omega) (by omega), flags_length]
      have nx := ih (n + 1) (by omega)
      rw [ht] at nx
      by_cases c : l[n] < ((l.length + 1 : Nat) : Int)
      · refine Ev_pos c (Ev_pos (by omega) (Ev_pos c ?_))
        rw [flags_set _ _ _ (by omega), Int.toNat_of_nonneg hx.1]
        exact nx
      · refine Ev_neg c ?_
        rw [flags_out _ _ _ (by omega)] at nx
        exact nx
  unfold impl_mex.f
  rw [w64 (by omega) (by omega)]
  refine Ev_pos (by omega) (Ev_pos (by omega) ?_)
  have := main l.length 0 (by omega)
  rw [List.take_zero, flags_nil] at this
  exact this

theorem impl_values_ev (r : Int) (hr : 0 ≤ r ∧ r ≤ 5) (N : Nat) (hN : N ≤ 24) : Ev (fun k => impl_coinValues.f k r (N : Int)) (CV r N) := by
  have outer : ∀ (d c : Nat), c + d = N → Ev (fun k => impl_coinValues.l0 k r (CV r c) (N : Int) (c : Int)) (CV r N) := by
    intro d
    induction d with
    | zero =>
      intro c hc
      obtain rfl : c = N := by omega
      refine Ev_round ?_
      simp only [impl_coinValues.l0]
      exact Ev_neg (by omega) (Ev.now _)
    | succ d ih =>
      intro c hc
      have nx := ih (c + 1) (by omega)
      have hcl := CV_len r c
      obtain ⟨hm, hlen⟩ := mask_in r hr c (by omega)
      have h24 := pow24 c (by omega)
      have loop : ∀ (e n : Nat), n + e = (turnL r c).length → Ev (fun k => impl_coinValues.l1 k r (CV r c) (c : Int) (((turnL r c).take n).map fun m => xsum (CV r c) m.toNat c) (N : Int) (c : Int) (turnL r c) ((turnL r c).length : Int) (n : Int)) (CV r N) := by
        intro e
        induction e with
        | zero =>
          intro n hn
          rw [List.take_of_length_le (by omega)]
          have hl : (CVrow r (CV r c) c).length < 300 := by unfold CVrow; rw [List.length_map]; exact hlen
          have hml := mexN_le (CVrow r (CV r c) c)
          refine Ev_round ?_
          simp only [impl_coinValues.l1]
          refine Ev_neg (by omega) (Ev.bind (impl_mex_ev (CVrow r (CV r c) c) (by omega) (CVrow_range r hr c (by omega))) (Ev_pos (by rw [hcl]; omega) ?_))
          rw [w64 (by omega) (by omega), wu16 (by omega) (by omega)]
          exact nx
        | succ e ihe =>
          intro n hn
          have hlt : n < (turnL r c).length := by omega
          have nx2 := ihe (n + 1) (by omega)
          rw [List.take_succ_eq_append_getElem hlt, List.map_append] at nx2
          obtain ⟨g1, g2, g3⟩ := hm _ (List.getElem_mem hlt)
          obtain ⟨M, hM⟩ := Int.eq_ofNat_of_zero_le (show 0 ≤ (turnL r c)[n] by omega)
          rw [hM] at g1 g2 g3
          have hp2 : 2 ^ (c + 1) = 2 ^ c + 2 ^ c := by rw [Nat.pow_succ]; omega
          have hsum := rowOf_ev (CV r c) (M - 2 ^ c) (by rw [hcl]; omega) (by rw [hcl]; omega)
          rw [hcl] at hsum
          have hx : xsum (CV r c) (M - 2 ^ c) c = xsum (CV r c) ((turnL r c)[n]).toNat c := by
            rw [hM]
            refine xsum_congr _ _ _ c (fun j hj => ?_)
            have e1 : M = 2 ^ c * 1 + (M - 2 ^ c) := by omega
            have e2 : (2 ^ c * 1 + (M - 2 ^ c)).testBit j = if j < c then (M - 2 ^ c).testBit j else (1 : Nat).testBit (j - c) := Nat.testBit_two_pow_mul_add 1 (show M - 2 ^ c < 2 ^ c by omega) j
            rw [← e1, if_pos hj] at e2
            exact e2.symm
          rw [hx] at hsum
          refine Ev_round ?_
          simp only [impl_coinValues.l1]
          rw [rd_nat hlt, w64 (x := (n : Int) + 1) (by omega) (by omega), hM, g3, show ((M : Nat) : Int) - ((2 ^ c : Nat) : Int) = ((M - 2 ^ c : Nat) : Int) by omega]
          exact Ev_pos (by omega) (Ev_pos (by omega) (Ev_pos (by omega) (Ev_pos (by omega) (Ev.bind hsum (Ev_pos (by rw [List.length_map, List.length_take]; omega) nx2)))))
      have hin := loop _ 0 (Nat.zero_add _)
      rw [List.take_zero, List.map_nil] at hin
      refine Ev_round ?_
      simp only [impl_coinValues.l0]
      exact Ev_pos (by omega) (Ev.bind (turns_ev r hr c (by omega)) hin)
  exact outer N 0 (by omega)

theorem l04rule_f (r : Int) : spec_l04Rule.f r = some (decide (0 ≤ r ∧ r ≤ 5)) := by
  unfold spec_l04Rule.f spec_l00In.f
  by_cases c : r ≥ 0
  · rw [if_pos c]
    exact congrArg some (decide_eq_decide.2 (by omega))
  · rw [if_neg c]
    exact congrArg some (decide_eq_false (by omega)).symm
theorem isRule_f (r : Int) : impl_isRule.f r = some (decide (0 ≤ r ∧ r ≤ 5)) := by
  unfold impl_isRule.f impl_within.f
  by_cases c : 0 ≤ r
  · rw [if_pos c]
    exact congrArg some (decide_eq_decide.2 (by omega))
  · rw [if_neg c]
    exact congrArg some (decide_eq_false (by omega)).symm
def rrC (r m : Int) : Int := if 0 ≤ r ∧ r ≤ 5 then (if m / 16777216 = 0 then 0 else 3) else 2
theorem l04row_f (r m : Int) : spec_l04Row.f r m = some (rrC r m) := by
  unfold spec_l04Row.f rrC
  rw [l04rule_f]
  simp only [Option.bind_some]
  by_cases h : 0 ≤ r ∧ r ≤ 5
  · rw [if_pos (decide_eq_true h), if_pos h]
    split <;> rfl
  · rw [if_neg (by simpa using h), if_neg h]
theorem rowRule_f (r m : Int) : impl_rowRule.f r m = some (rrC r m) := by
  unfold impl_rowRule.f rrC
  rw [isRule_f]
  simp only [Option.bind_some]
  by_cases h : 0 ≤ r ∧ r ≤ 5
  · rw [if_pos (decide_eq_true h), if_pos h]
    split <;> rfl
  · rw [if_neg (by simpa using h), if_neg h]
theorem rrC_zero {r m : Int} (h : rrC r m = 0) : (0 ≤ r ∧ r ≤ 5) ∧ m / 16777216 = 0 := by
  unfold rrC at h
  by_cases c : 0 ≤ r ∧ r ≤ 5
  · rw [if_pos c] at h
    refine ⟨c, ?_⟩
    by_cases d : m / 16777216 = 0
    · exact d
    · rw [if_neg d] at h
      omega
  · rw [if_neg c] at h
    omega
theorem xcast (a b : Nat) (ha : a < 65536) (hb : b < 65536) : X (a : Int) (b : Int) = ((a ^^^ b : Nat) : Int) := by
  rw [X_nat ⟨by omega, by omega⟩ ⟨by omega, by omega⟩]
  rfl
theorem xlt {a b : Nat} (ha : a < 65536) (hb : b < 65536) : a ^^^ b < 65536 := Nat.xor_lt_two_pow (n := 16) ha hb
/-- The value of two rows laid together. -/
theorem xsum_xor (V : List Int) (hV : ∀ x ∈ V, 0 ≤ x ∧ x ≤ 65535) (a b : Nat) : ∀ n, n ≤ V.length → xsum V (a ^^^ b) n = X (xsum V a n) (xsum V b n) := by
  intro n
  induction n with
  | zero => intro _; show (0 : Int) = Go.bits .xor .u16 0 0; decide
  | succ n ih =>
    intro hn
    have ih := ih (by omega)
    have hA := xsum_range V hV a n (by omega)
    have hB := xsum_range V hV b n (by omega)
    have hv := hV _ (rd_mem (xs := V) (i := (n : Int)) (by omega) (by omega))
    rw [xsum_succ, xsum_succ, xsum_succ, Nat.testBit_xor, ih]
    generalize xsum V a n = A at *
    generalize xsum V b n = B at *
    generalize rd V (n : Int) = v at *
    obtain ⟨A, rfl⟩ := Int.eq_ofNat_of_zero_le hA.1
    obtain ⟨B, rfl⟩ := Int.eq_ofNat_of_zero_le hB.1
    obtain ⟨v, rfl⟩ := Int.eq_ofNat_of_zero_le hv.1
    have h1 : A < 65536 := by omega
    have h2 : B < 65536 := by omega
    have h3 : v < 65536 := by omega
    cases a.testBit n <;> cases b.testBit n
    · simp
    · simp only [Bool.false_xor, if_true, Bool.false_eq_true, if_false]
      rw [xcast _ _ h1 h2, xcast _ _ (xlt h1 h2) h3, xcast _ _ h2 h3, xcast _ _ h1 (xlt h2 h3), Nat.xor_assoc]
    · simp only [Bool.xor_false, if_true, Bool.false_eq_true, if_false]
      rw [xcast _ _ h1 h2, xcast _ _ (xlt h1 h2) h3, xcast _ _ h1 h3, xcast _ _ (xlt h1 h3) h2, Nat.xor_assoc, Nat.xor_assoc, Nat.xor_comm B v]
    · simp only [Bool.xor_self, if_true, Bool.false_eq_true, if_false]
      rw [xcast _ _ h1 h2, xcast _ _ h1 h3, xcast _ _ h2 h3, xcast _ _ (xlt h1 h3) (xlt h2 h3)]
      congr 1
      rw [Nat.xor_comm B v, Nat.xor_assoc, ← Nat.xor_assoc v v B, Nat.xor_self, Nat.zero_xor]
theorem x_zero {a b : Int} (ha : 0 ≤ a ∧ a ≤ 65535) (hb : 0 ≤ b ∧ b ≤ 65535) : X a b = 0 ↔ b = a := by
  obtain ⟨A, rfl⟩ := Int.eq_ofNat_of_zero_le ha.1
  obtain ⟨B, rfl⟩ := Int.eq_ofNat_of_zero_le hb.1
  rw [xcast _ _ (by omega) (by omega)]
  constructor
  · intro h
    have h0 : A ^^^ B = 0 := by omega
    have h1 : A ^^^ (A ^^^ B) = B := by rw [← Nat.xor_assoc, Nat.xor_self, Nat.zero_xor]
    rw [h0, Nat.xor_zero] at h1
    rw [h1]
  · intro h
    have : B = A := by omega
    rw [this, Nat.xor_self]
    rfl
/-- All turns whose greatest coin is a head of the row. -/
def AT (r : Int) (m : Nat) : Nat → List Int
  | 0 => []
  | n + 1 => AT r m n ++ (if m.testBit n = true then turnL r n else [])
theorem AT_succ (r : Int) (m n : Nat) : AT r m (n + 1) = AT r m n ++ (if m.testBit n = true then turnL r n else []) := rfl
theorem AT_len (r : Int) (hr : 0 ≤ r ∧ r ≤ 5) (m : Nat) : ∀ n, n ≤ 24 → (AT r m n).length ≤ n * 300 := by
  intro n
  induction n with
  | zero => intro _; simp [AT]
  | succ n ih =>
    intro hn
    rw [AT_succ, List.length_append]
    have h1 := ih (by omega)
    have h2 := (mask_in r hr n (by omega)).2
    generalize turnL r n = T at h2 ⊢
    generalize (AT r m n).length = q at h1 ⊢
    have e : (n + 1) * 300 = n * 300 + 300 := by omega
    split
    · omega
    · rw [e]
      exact Nat.le_trans h1 (Nat.le_add_right _ _)
theorem AT_in (r : Int) (hr : 0 ≤ r ∧ r ≤ 5) (m : Nat) : ∀ n, n ≤ 24 → ∀ t ∈ AT r m n, 0 ≤ t ∧ t < 16777216 := by
  intro n
  induction n with
  | zero => intro _ t ht; simp [AT] at ht
  | succ n ih =>
    intro hn t ht
    rw [AT_succ] at ht
    rcases List.mem_append.1 ht with ht | ht
    · exact ih (by omega) t ht
    · split at ht
      · have h1 := (mask_in r hr n (by omega)).1 t ht
        have h2 := pow24 n (by omega)
        have h3 := Nat.two_pow_pos n
        omega
      · simp at ht
theorem all0_ev (r : Int) (hr : 0 ≤ r ∧ r ≤ 5) (m : Nat) (hm : m ≤ 4294967295) (N : Nat) (hN : N = 24) : Ev (fun k => impl_allTurns.l0 k r (m : Int) [] 0) (AT r m N) := by
  have main : ∀ (d n : Nat), n + d = N → Ev (fun k => impl_allTurns.l0 k r (m : Int) (AT r m n) (n : Int)) (AT r m N) := by
    intro d
    induction d with
    | zero =>
      intro n hn
      obtain rfl : n = N := by omega
      refine Ev_round ?_
      simp only [impl_allTurns.l0]
      exact Ev_neg (by omega) (Ev.now _)
    | succ d ih =>
      intro n hn
      have nx := ih (n + 1) (by omega)
      rw [AT_succ] at nx
      have h1 := AT_len r hr m n (by omega)
      have h2 := (mask_in r hr n (by omega)).2
      have ht := turns_ev r hr n (by omega)
      generalize turnL r n = T at *
      generalize AT r m n = A at *
      refine Ev_round ?_
      simp only [impl_allTurns.l0]
      rw [bit_u32 m n hm (by omega), w64 (x := (n : Int) + 1) (by omega) (by omega)]
      refine Ev_pos (by omega) (Ev_pos (by omega) ?_)
      by_cases c : m.testBit n = true
      · rw [if_pos c] at nx
        exact Ev_pos (by simp [c]) (Ev.bind ht (Ev_pos (by omega) nx))
      · rw [if_neg c, List.append_nil] at nx
        exact Ev_neg (by simp [c]) nx
  exact main N 0 (by omega)
theorem all_ev (r : Int) (hr : 0 ≤ r ∧ r ≤ 5) (m : Nat) (hm : m ≤ 4294967295) : Ev (fun k => impl_allTurns.f k r (m : Int)) (AT r m 24) := all0_ev r hr m hm 24 rfl
theorem Ev_all {β : Type} (g : Nat → Int → Option β) (v : Int → β) : ∀ l : List Int, (∀ t ∈ l, Ev (fun k => g k t) (v t)) → ∃ K, ∀ k, K ≤ k → ∀ t ∈ l, g k t = some (v t) := by
  intro l
  induction l with
  | nil => intro _; exact ⟨0, fun _ _ t ht => by simp at ht⟩
  | cons x l ih =>
    intro h
    obtain ⟨K1, h1⟩ := h x (List.mem_cons_self ..)
    obtain ⟨K2, h2⟩ := ih (fun t ht => h t (List.mem_cons_of_mem _ ht))
    refine ⟨max K1 K2, fun k hk t ht => ?_⟩
    rcases List.mem_cons.1 ht with e | e
    · rw [e]
      exact h1 k (by omega)
    · exact h2 k (by omega) t e
theorem cnt_ev (V : List Int) (hl : V.length = 24) (s : Int) (T : List Int) (hT : ∀ t ∈ T, 0 ≤ t ∧ t < 16777216) (hlen : T.length ≤ 100000) : Ev (fun k => impl_CountWinningTurns.cnt k V s T) (((T.filter fun t => decide (xsum V t.toNat V.length = s)).length : Int), 0) := by
  obtain ⟨K, hK⟩ := Ev_all (fun k t => impl_rowOf.f k V t) (fun t => xsum V t.toNat V.length) (0 :: T) (fun t ht => by
    have h : 0 ≤ t ∧ t < 16777216 := by
      rcases List.mem_cons.1 ht with e | e
      · omega
      · exact hT t e
    obtain ⟨n, rfl⟩ := Int.eq_ofNat_of_zero_le h.1
    exact rowOf_ev V n (by rw [hl]; omega) (by omega))
  refine ⟨K, fun k hk => ?_⟩
  have h := hK k hk
  show impl_CountWinningTurns.cnt k V s T = _
  unfold impl_CountWinningTurns.cnt
  rw [if_pos ⟨List.all_eq_true.2 (fun t ht => by rw [h t ht]; rfl), hlen⟩]
  have e : (T.filter fun t => decide (impl_rowOf.f k V t = some s)) = T.filter fun t => decide (xsum V t.toNat V.length = s) := List.filter_congr (fun t ht => by
    rw [h t (List.mem_cons_of_mem _ ht)]
    exact decide_eq_decide.2 ⟨fun q => Option.some.inj q, fun q => congrArg some q⟩)
  rw [e]
/-- The reference's turns that win. -/
def WT (V : List Int) (m : Nat) (l : List Int) : List Int := l.filter fun t => decide (xsum V (m ^^^ t.toNat) V.length = 0)
theorem WT_len (V : List Int) (m : Nat) (l : List Int) : (WT V m l).length ≤ l.length := List.length_filter_le _ _
theorem WT_app (V : List Int) (m : Nat) (l t : List Int) : WT V m (l ++ t) = WT V m l ++ WT V m t := by
  unfold WT
  rw [List.filter_append]
theorem WT_one (V : List Int) (m M : Nat) : WT V m [(M : Int)] = if xsum V (m ^^^ M) V.length = 0 then [(M : Int)] else [] := by
  unfold WT
  rw [List.filter_cons, Int.toNat_natCast, List.filter_nil]
  by_cases z : xsum V (m ^^^ M) V.length = 0
  · rw [if_pos (decide_eq_true z), if_pos z]
  · rw [if_neg (by rw [decide_eq_false z]; simp), if_neg z]
theorem win_row (r : Int) (V : List Int) (hl : V.length = 24) (m : Nat) (hm : m < 16777216) (c : Nat) (hc : c < 24) (T : List Int) (hT : ∀ t ∈ T, 0 ≤ t ∧ t < 16777216) (hTl : T.length < 300) (P : List Int) (hP : P.length ≤ 10000) (res : List Int) (nx : Ev (fun k => spec_l04Winning.l0 k r (m : Int) V (P ++ WT V m T) ((c + 1 : Nat) : Int)) res) :
    ∀ (e q : Nat), q + e = T.length → Ev (fun k => spec_l04Winning.l1 k r (m : Int) V (P ++ WT V m (T.take q)) (c : Int) T (q : Int)) res := by
  intro e
  induction e with
  | zero =>
    intro q hq
    rw [List.take_of_length_le (by omega)]
    refine Ev_round ?_
    simp only [spec_l04Winning.l1]
    rw [w64 (x := (c : Int) + 1) (by omega) (by omega)]
    exact Ev_neg (by omega) nx
  | succ e ihe =>
    intro q hq
    have hlt : q < T.length := by omega
    have nx2 := ihe (q + 1) (by omega)
    have hwq := WT_len V m (T.take q)
    rw [List.length_take] at hwq
    obtain ⟨g1, g2⟩ := hT _ (List.getElem_mem hlt)
    obtain ⟨M, hM⟩ := Int.eq_ofNat_of_zero_le g1
    rw [List.take_succ_eq_append_getElem hlt, hM, WT_app, WT_one] at nx2
    rw [hM] at g1 g2
    have hx : m ^^^ M < 2 ^ 24 := Nat.xor_lt_two_pow (by omega) (by omega)
    have hsum := spec_sum_ev V (m ^^^ M) (by omega) (by omega)
    refine Ev_round ?_
    simp only [spec_l04Winning.l1]
    rw [rd_nat hlt, hM, u32_xor_nat m M (by omega) (by omega), w64 (x := (q : Int) + 1) (by omega) (by omega)]
    refine Ev_pos (by omega) (Ev_pos (by omega) (Ev.bind hsum ?_))
    by_cases z : xsum V (m ^^^ M) V.length = 0
    · rw [if_pos z, ← List.append_assoc] at nx2
      exact Ev_pos z (Ev_pos (by rw [List.length_append]; omega) nx2)
    · rw [if_neg z, List.append_nil] at nx2
      exact Ev_neg z nx2
theorem spec_win0_ev (r : Int) (hr : 0 ≤ r ∧ r ≤ 5) (V : List Int) (hl : V.length = 24) (m : Nat) (hm : m < 16777216) (N : Nat) (hN : N = 24) : Ev (fun k => spec_l04Winning.l0 k r (m : Int) V [] 0) (WT V m (AT r m N)) := by
  have main : ∀ (d n : Nat), n + d = N → Ev (fun k => spec_l04Winning.l0 k r (m : Int) V (WT V m (AT r m n)) (n : Int)) (WT V m (AT r m N)) := by
    intro d
    induction d with
    | zero =>
      intro n hn
      obtain rfl : n = N := by omega
      refine Ev_round ?_
      simp only [spec_l04Winning.l0]
      exact Ev_neg (by omega) (Ev.now _)
    | succ d ih =>
      intro n hn
      have nx := ih (n + 1) (by omega)
      rw [AT_succ] at nx
      have h1 := AT_len r hr m n (by omega)
      have hw := WT_len V m (AT r m n)
      obtain ⟨hmk, hlen⟩ := mask_in r hr n (by omega)
      have h24 := pow24 n (by omega)
      have hpos := Nat.two_pow_pos n
      have ht := spec_turns_ev r hr n (by omega)
      have hT : ∀ t ∈ turnL r n, 0 ≤ t ∧ t < 16777216 := fun t q => by
        have := hmk t q
        omega
      clear hmk
      generalize turnL r n = T at *
      have hP : (WT V m (AT r m n)).length ≤ 10000 := by omega
      generalize hPP : WT V m (AT r m n) = P at *
      have hun : IntKind.u64.wrap (n : Int) = (n : Int) := wu64 (by omega) (by omega)
      refine Ev_round ?_
      simp only [spec_l04Winning.l0]
      rw [hun, bit_u32 m n (by omega) (by omega), w64 (x := (n : Int) + 1) (by omega) (by omega)]
      refine Ev_pos (by omega) (Ev_pos (by omega) ?_)
      by_cases c : m.testBit n = true
      · rw [if_pos c, WT_app, hPP] at nx
        have hin := win_row r V hl m hm n (by omega) T hT hlen P hP _ nx T.length 0 (by omega)
        have e0 : WT V m (T.take 0) = [] := rfl
        rw [e0, List.append_nil] at hin
        exact Ev_neg (by simp [c]) (Ev.bind ht hin)
      · rw [if_neg c, List.append_nil, hPP] at nx
        exact Ev_pos (by simp [c]) nx
  exact main N 0 (by omega)
theorem spec_win_ev (r : Int) (hr : 0 ≤ r ∧ r ≤ 5) (m : Nat) (hm : m < 16777216) : Ev (fun k => spec_l04Winning.f k r (m : Int)) (WT (CV r 24) m (AT r m 24)) :=
  Ev.bind (spec_values_ev r hr 24 (by omega)) (spec_win0_ev r hr (CV r 24) (CV_len r 24) m hm 24 rfl)
theorem cw_eq (V : List Int) (hV : ∀ x ∈ V, 0 ≤ x ∧ x ≤ 65535) (M : Nat) (T : List Int) : (T.filter fun t => decide (xsum V t.toNat V.length = xsum V M V.length)) = WT V M T := by
  unfold WT
  refine List.filter_congr (fun t _ => decide_eq_decide.2 ?_)
  rw [xsum_xor V hV M t.toNat V.length (Nat.le_refl _)]
  exact (x_zero (xsum_range _ hV M V.length (Nat.le_refl _)) (xsum_range _ hV t.toNat V.length (Nat.le_refl _))).symm
theorem cw_both (r m : Int) (h0 : 0 ≤ m) : ∃ p, Ev (fun k => spec_CountWinningTurns.f k r m) p ∧ Ev (fun k => impl_CountWinningTurns.f k r m) p := by
  by_cases c : rrC r m = 0
  · obtain ⟨hr, hm⟩ := rrC_zero c
    obtain ⟨M, rfl⟩ := Int.eq_ofNat_of_zero_le h0
    have hM : M < 16777216 := by omega
    have hl := CV_len r 24
    have hV := CV_range r hr 24 (by omega)
    have hs := spec_win_ev r hr M hM
    have hv := impl_values_ev r hr 24 (by omega)
    have hT := AT_in r hr M 24 (by omega)
    have hTl := AT_len r hr M 24 (by omega)
    have ha := all_ev r hr M (by omega)
    generalize CV r 24 = V at *
    generalize AT r M 24 = T at *
    have hi := rowOf_ev V M (by rw [hl]; omega) (by omega)
    have hc := cnt_ev V hl (xsum V M V.length) T hT (by omega)
    rw [cw_eq V hV M T] at hc
    exact ⟨_, Ev_bind1 (l04row_f r M) (Ev_pos c (Ev.bind hs (Ev.now _))), Ev_bind1 (rowRule_f r M) (Ev_pos c (Ev.bind hv (Ev.bind hi (Ev.bind ha hc))))⟩
  · exact ⟨_, Ev_bind1 (l04row_f r m) (Ev_neg c (Ev.now _)), Ev_bind1 (rowRule_f r m) (Ev_neg c (Ev.now _))⟩
theorem FnExactCountWinningTurns : laws_FnExactCountWinningTurns.Pure := by
  intro r m _ wm
  obtain ⟨m0, m1⟩ := wf_u32 wm
  obtain ⟨p, hs, hi⟩ := cw_both r m m0
  refine Ev.rounds (r := true) ?_
  exact Ev.bind hs (Ev.bind hi (Ev_pos rfl (Ev_pos rfl (Ev.now _))))

end Go.Proofs.YtnicjjnghclgpaaDoor.Pure
