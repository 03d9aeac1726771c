/- FnSums: the printed pure statement holds: at every input the law's function answers true; no condition but the bounds of its kinds. -/
import Derived.Test.YteinllalhiflcaaQFnSumsx10
import Derived.Test.YteinllalhiflcaaLib
import Derived.Test.YteinllalhiflcaaLib3
set_option linter.unusedVariables false
set_option linter.unusedSimpArgs false
namespace Go.Proofs.Yteinllalhiflcaa.Pure
open Go.RowKit Go.Proofs.Yteinllalhiflcaa.QFnSums Go.Proofs.YteinllalhiflcaaW.PrintWords Go.Proofs.YteinllalhiflcaaW.PrintLast Go.Proofs.Yteinllalhiflcaa.Lib

theorem rdL2_nat {g : List (List Int)} {n : Nat} (h : n < g.length) : rd_L2 g (n : Int) = g[n] := by simp [rd_L2, List.getD_eq_getElem?_getD, List.getElem?_eq_getElem h]

theorem spec_ok_ev (g : List (List Int)) (hl : g.length ≤ 1048576) (hr : ∀ mv ∈ g, mv.length ≤ 1048576 ∧ ∀ x ∈ mv, -128 ≤ x ∧ x ≤ 127) : Ev (fun k => spec_l03Ok.f k g) (validG g) := by
  have inner : ∀ (n : Nat) (hn : n < g.length) (r : Bool), Ev (fun k => spec_l03Ok.l0 k g ((n + 1 : Nat) : Int)) r →
      ∀ (d j : Nat) (p : Int), j + d = g[n].length → -1 ≤ p → p ≤ 127 → Ev (fun k => spec_l03Ok.l1 k g (n : Int) p (j : Int)) (okFrom n p (g[n].drop j) && r) := by
    intro n hn r hnext d
    have hmv := hr _ (List.getElem_mem hn)
    induction d with
    | zero =>
      intro j p h hp hp1
      obtain rfl : j = g[n].length := by omega
      refine Ev_round ?_
      simp only [spec_l03Ok.l1]
      rw [rdL2_nat hn]
      refine Ev_pos (by omega) (Ev_pos (by omega) (Ev_neg (by omega) ?_))
      rw [w64 (by omega) (by omega), List.drop_length]
      exact Ev_as hnext (by simp [okFrom])
    | succ d ih =>
      intro j p h hp hp1
      have hj : j < g[n].length := by omega
      have hx := hmv.2 _ (List.getElem_mem hj)
      refine Ev_round ?_
      simp only [spec_l03Ok.l1]
      rw [rdL2_nat hn]
      refine Ev_pos (by omega) (Ev_pos (by omega) (Ev_pos (by omega) (Ev_pos (by omega) ?_)))
      have e0 : wrap64 ((j : Int) + 1) = ((j + 1 : Nat) : Int) := by rw [w64 (by omega) (by omega)]; omega
      rw [List.drop_eq_getElem_cons hj, rd_nat hj, e0, w64 (x := g[n][j]) (by omega) (by omega), w64 (x := (n : Int) - 1) (by omega) (by omega), w64 (x := p + 1) (by omega) (by omega)]
      unfold spec_l00In.f
      by_cases c : p < g[n][j] ∧ 0 ≤ g[n][j] ∧ g[n][j] ≤ (n : Int) - 1
      · refine Ev_bind1 (if_pos (by omega)) (Ev_pos (by simp; omega) (Ev_as (ih (j + 1) _ (by omega) (by omega) (by omega)) ?_))
        simp [okFrom, c]
      · by_cases c0 : g[n][j] ≥ p + 1
        · refine Ev_bind1 (if_pos c0) (Ev_neg (by simp; omega) (Ev_as (Ev.now _) ?_))
          simp [okFrom, c]
        · refine Ev_bind1 (if_neg c0) (Ev_neg (by simp) (Ev_as (Ev.now _) ?_))
          simp [okFrom, c]
  have outer : ∀ (d n : Nat), n + d = g.length → Ev (fun k => spec_l03Ok.l0 k g (n : Int)) (okRows n (g.drop n) && decide (1 ≤ g.length ∧ g.length ≤ 60)) := by
    intro d
    induction d with
    | zero =>
      intro n h
      obtain rfl : n = g.length := by omega
      refine Ev_round ?_
      simp only [spec_l03Ok.l0]
      refine Ev_neg (by omega) ?_
      unfold spec_l00In.f
      rw [List.drop_length]
      by_cases c0 : (g.length : Int) ≥ 1
      · refine Ev_bind1 (if_pos c0) (Ev_as (Ev.now _) ?_)
        simp only [okRows, Bool.true_and]
        apply decide_eq_decide.2
        omega
      · refine Ev_bind1 (if_neg c0) (Ev_as (Ev.now _) ?_)
        simp [okRows]
        omega
    | succ d ih =>
      intro n h
      have hn : n < g.length := by omega
      refine Ev_round ?_
      simp only [spec_l03Ok.l0]
      refine Ev_pos (by omega) ?_
      rw [List.drop_eq_getElem_cons hn]
      refine Ev_as (inner n hn _ (ih (n + 1) (by omega)) g[n].length 0 (-1) (by omega) (by omega) (by omega)) ?_
      simp [okRows, Bool.and_assoc]
  exact Ev_as (outer g.length 0 (by omega)) (by simp [validG])

/-- The moves from place (i, k): down in the second game, across in the first. -/
def agRow (n : Nat) (down across : List Int) (k i : Nat) : List Int := down.map (fun t => (i : Int) + (n : Int) * t) ++ across.map (fun t => t + (n : Int) * (k : Int))
def agBlock (a : List (List Int)) (down : List Int) (k : Nat) : Nat → List (List Int)
  | 0 => []
  | i + 1 => agBlock a down k i ++ [agRow a.length down (a.getD i []) k i]
def agDone (a b : List (List Int)) : Nat → List (List Int)
  | 0 => []
  | k + 1 => agDone a b k ++ agBlock a (b.getD k []) k a.length
theorem agBlock_succ (a : List (List Int)) (down : List Int) (k i : Nat) : agBlock a down k (i + 1) = agBlock a down k i ++ [agRow a.length down (a.getD i []) k i] := rfl
theorem agDone_succ (a b : List (List Int)) (k : Nat) : agDone a b (k + 1) = agDone a b k ++ agBlock a (b.getD k []) k a.length := rfl
theorem agBlock_len (a : List (List Int)) (down : List Int) (k : Nat) : ∀ i, (agBlock a down k i).length = i := by
  intro i
  induction i with
  | zero => rfl
  | succ i ih => rw [agBlock_succ, List.length_append, ih]; rfl
theorem agDone_len (a b : List (List Int)) : ∀ k, (agDone a b k).length = a.length * k := by
  intro k
  induction k with
  | zero => rfl
  | succ k ih => rw [agDone_succ, List.length_append, ih, agBlock_len, Nat.mul_succ]
theorem okFrom_rise {i : Int} : ∀ {mv : List Int} {p : Int}, okFrom i p mv = true → mv.Pairwise (· < ·) ∧ ∀ x ∈ mv, p < x := by
  intro mv
  induction mv with
  | nil => intro p _; exact ⟨List.Pairwise.nil, fun x hx => by cases hx⟩
  | cons y t ih =>
    intro p h
    simp only [okFrom, Bool.and_eq_true, decide_eq_true_eq] at h
    obtain ⟨h1, h2⟩ := ih h.2
    refine ⟨List.pairwise_cons.2 ⟨h2, h1⟩, fun x hx => ?_⟩
    rcases List.mem_cons.1 hx with rfl | hx
    · exact h.1.1
    · have := h2 x hx
      omega
theorem valid_rise {g : List (List Int)} (h : validG g = true) (j : Nat) (hj : j < g.length) : g[j].Pairwise (· < ·) := by
  simp only [validG, Bool.and_eq_true] at h
  have := okRows_at h.1 j hj
  exact (okFrom_rise this).1
/-- What a step down, or across, leads to, in the small. -/
theorem ag_num (n k i T : Nat) (hi : i < n) (hT : T < k) (hk : n * k ≤ 60) : ∃ P : Nat, (n : Int) * (T : Int) = (P : Int) ∧ P + n ≤ n * k := by
  refine ⟨n * T, by simp, ?_⟩
  have := Nat.mul_le_mul_left n (show T + 1 ≤ k by omega)
  rw [Nat.mul_succ] at this
  exact this
theorem ag_down (n k i T : Nat) (hi : i < n) (hT : T < k) (hk : n * k ≤ 60) : IntKind.i8.wrap (wrap64 ((i : Int) + wrap64 ((n : Int) * wrap64 (T : Int)))) = (i : Int) + (n : Int) * (T : Int) := by
  obtain ⟨P, hP, hb⟩ := ag_num n k i T hi hT hk
  have hTk : T ≤ 60 := by
    have := Nat.mul_le_mul_right k (show 1 ≤ n by omega)
    omega
  rw [w64 (x := (T : Int)) (by omega) (by omega), hP, w64 (x := (P : Int)) (by omega) (by omega), w64 (by omega) (by omega), wi8 (by omega) (by omega)]
theorem ag_down' (n k i T : Nat) (hi : i < n) (hT : T < k) (hk : n * k ≤ 60) : IntKind.i8.wrap (IntKind.i8.wrap (i : Int) + IntKind.i8.wrap ((n : Int) * (T : Int))) = (i : Int) + (n : Int) * (T : Int) := by
  obtain ⟨P, hP, hb⟩ := ag_num n k i T hi hT hk
  rw [hP, wi8 (x := (i : Int)) (by omega) (by omega), wi8 (x := (P : Int)) (by omega) (by omega), wi8 (by omega) (by omega)]
theorem ag_across (n k T : Nat) (hT : T < n) (hk : n * (k + 1) ≤ 60) : IntKind.i8.wrap (wrap64 (wrap64 (T : Int) + wrap64 ((n : Int) * (k : Int)))) = (T : Int) + (n : Int) * (k : Int) := by
  obtain ⟨P, hP, hb⟩ := ag_num n (k + 1) T k hT (by omega) hk
  rw [hP, w64 (x := (T : Int)) (by omega) (by omega), w64 (x := (P : Int)) (by omega) (by omega), w64 (by omega) (by omega), wi8 (by omega) (by omega)]
theorem ag_across' (n k T : Nat) (hT : T < n) (hk : n * (k + 1) ≤ 60) : IntKind.i8.wrap ((T : Int) + IntKind.i8.wrap ((n : Int) * IntKind.i8.wrap (k : Int))) = (T : Int) + (n : Int) * (k : Int) := by
  obtain ⟨P, hP, hb⟩ := ag_num n (k + 1) T k hT (by omega) hk
  have hkk : k ≤ 60 := by
    have := Nat.mul_le_mul_right (k + 1) (show 1 ≤ n by omega)
    omega
  rw [wi8 (x := (k : Int)) (by omega) (by omega), hP, wi8 (x := (P : Int)) (by omega) (by omega), wi8 (by omega) (by omega)]
theorem take_map_succ {β : Type} (f : Int → β) (l : List Int) (j : Nat) (h : j < l.length) : (l.take (j + 1)).map f = (l.take j).map f ++ [f l[j]] := by
  rw [List.take_succ_eq_append_getElem h, List.map_append]
  rfl
theorem getD_at {g : List (List Int)} {i : Nat} (h : i < g.length) : g.getD i [] = g[i] := by simp [List.getD_eq_getElem?_getD, List.getElem?_eq_getElem h]
set_option maxHeartbeats 1000000 in
theorem spec_ag_row (a b : List (List Int)) (ha : validG a = true) (hb : validG b = true) (hab : a.length * b.length ≤ 60) (k i : Nat) (hk : k < b.length) (hi : i < a.length) (Q : List (List Int)) (hQ : Q.length ≤ 60) (R : List (List Int) × Int)
    (hn : Ev (fun q => spec_AddGames.l1 q a b (a.length : Int) (Q ++ [agRow a.length b[k] a[i] k i]) (k : Int) ((i + 1 : Nat) : Int)) R) :
    Ev (fun q => spec_AddGames.l2 q a b (a.length : Int) Q (k : Int) (i : Int) [] 0) R := by
  have hbl := valid_row_len hb k hk
  have hal := valid_row_len ha i hi
  have hbx := valid_at hb k hk
  have hax := valid_at ha i hi
  have hlb := valid_len hb
  have hla := valid_len ha
  have hrb := rdL2_nat hk
  have hra := rdL2_nat hi
  have hkk : a.length * (k + 1) ≤ 60 := Nat.le_trans (Nat.mul_le_mul_left _ (show k + 1 ≤ b.length by omega)) hab
  generalize b[k] = down at *
  generalize a[i] = across at *
  have second : ∀ (d j : Nat), j + d = across.length → Ev (fun q => spec_AddGames.l3 q a b (a.length : Int) Q (k : Int) (i : Int) (down.map (fun t => (i : Int) + (a.length : Int) * t) ++ (across.take j).map (fun t => t + (a.length : Int) * (k : Int))) (j : Int)) R := by
    intro d
    induction d with
    | zero =>
      intro j hj
      obtain rfl : j = across.length := by omega
      refine Ev_round ?_
      simp only [spec_AddGames.l3]
      rw [hra, List.take_length, w64 (x := (i : Int) + 1) (by omega) (by omega)]
      exact Ev_pos (by omega) (Ev_pos (by omega) (Ev_neg (by omega) (Ev_pos (by omega) hn)))
    | succ d ih =>
      intro j hj
      have hjl : j < across.length := by omega
      have hx := hax _ (List.getElem_mem hjl)
      have nx := ih (j + 1) (by omega)
      rw [take_map_succ _ _ _ hjl, ← List.append_assoc] at nx
      refine Ev_round ?_
      simp only [spec_AddGames.l3]
      rw [hra, rd_nat hjl, w64 (x := (j : Int) + 1) (by omega) (by omega)]
      generalize across[j] = t at hx nx
      obtain ⟨T, rfl⟩ := Int.eq_ofNat_of_zero_le hx.1
      have hlen : (down.map (fun t => (i : Int) + (a.length : Int) * t) ++ (across.take j).map (fun t => t + (a.length : Int) * (k : Int))).length < 140737488355328 := by
        rw [List.length_append, List.length_map, List.length_map, List.length_take]; omega
      refine Ev_pos (by omega) (Ev_pos (by omega) (Ev_pos (by omega) (Ev_pos (by omega) (Ev_pos hlen ?_))))
      rw [ag_across a.length k T (by omega) hkk]
      exact nx
  have first : ∀ (d j : Nat), j + d = down.length → Ev (fun q => spec_AddGames.l2 q a b (a.length : Int) Q (k : Int) (i : Int) ((down.take j).map (fun t => (i : Int) + (a.length : Int) * t)) (j : Int)) R := by
    intro d
    induction d with
    | zero =>
      intro j hj
      obtain rfl : j = down.length := by omega
      refine Ev_round ?_
      simp only [spec_AddGames.l2]
      have s2 := second across.length 0 (by omega)
      rw [List.take_zero, List.map_nil, List.append_nil] at s2
      rw [hrb, List.take_length]
      exact Ev_pos (by omega) (Ev_pos (by omega) (Ev_neg (by omega) s2))
    | succ d ih =>
      intro j hj
      have hjl : j < down.length := by omega
      have hx := hbx _ (List.getElem_mem hjl)
      have nx := ih (j + 1) (by omega)
      rw [take_map_succ _ _ _ hjl] at nx
      refine Ev_round ?_
      simp only [spec_AddGames.l2]
      rw [hrb, rd_nat hjl, w64 (x := (j : Int) + 1) (by omega) (by omega)]
      generalize down[j] = t at hx nx
      obtain ⟨T, rfl⟩ := Int.eq_ofNat_of_zero_le hx.1
      have hlen : ((down.take j).map (fun t => (i : Int) + (a.length : Int) * t)).length < 140737488355328 := by
        rw [List.length_map, List.length_take]; omega
      refine Ev_pos (by omega) (Ev_pos (by omega) (Ev_pos (by omega) (Ev_pos (by omega) (Ev_pos hlen ?_))))
      rw [ag_down a.length k i T hi (by omega) (Nat.le_trans (Nat.mul_le_mul_left _ (by omega)) hkk)]
      exact nx
  have := first down.length 0 (by omega)
  rw [List.take_zero, List.map_nil] at this
  exact this
set_option maxHeartbeats 1000000 in
theorem spec_ag_loop (a b : List (List Int)) (ha : validG a = true) (hb : validG b = true) (hab : a.length * b.length ≤ 60) :
    ∀ (d k : Nat), k + d = b.length → Ev (fun q => spec_AddGames.l0 q a b (a.length : Int) (agDone a b k) (k : Int)) (agDone a b b.length, 0) := by
  have hlb := valid_len hb
  have hla := valid_len ha
  intro d
  induction d with
  | zero =>
    intro k h
    obtain rfl : k = b.length := by omega
    refine Ev_round ?_
    simp only [spec_AddGames.l0]
    exact Ev_neg (by omega) (Ev.now _)
  | succ d ih =>
    intro k h
    have hk : k < b.length := by omega
    have nx := ih (k + 1) (by omega)
    rw [agDone_succ, getD_at hk] at nx
    have hl1 := agDone_len a b k
    have hkk : a.length * (k + 1) ≤ 60 := Nat.le_trans (Nat.mul_le_mul_left _ (show k + 1 ≤ b.length by omega)) hab
    rw [Nat.mul_succ] at hkk
    have inner : ∀ (e i : Nat), i + e = a.length → Ev (fun q => spec_AddGames.l1 q a b (a.length : Int) (agDone a b k ++ agBlock a b[k] k i) (k : Int) (i : Int)) (agDone a b b.length, 0) := by
      intro e
      induction e with
      | zero =>
        intro i hi
        obtain rfl : i = a.length := by omega
        refine Ev_round ?_
        simp only [spec_AddGames.l1]
        refine Ev_neg (by omega) ?_
        rw [w64 (by omega) (by omega)]
        exact nx
      | succ e ihe =>
        intro i hi
        have hia : i < a.length := by omega
        have nx2 := ihe (i + 1) (by omega)
        rw [agBlock_succ, getD_at hia, ← List.append_assoc] at nx2
        refine Ev_round ?_
        simp only [spec_AddGames.l1]
        have hl2 := agBlock_len a b[k] k i
        exact Ev_pos (by omega) (spec_ag_row a b ha hb hab k i hk hia _ (by rw [List.length_append, hl1, hl2]; omega) _ nx2)
    have := inner a.length 0 (by omega)
    rw [show agBlock a b[k] k 0 = [] from rfl, List.append_nil] at this
    refine Ev_round ?_
    simp only [spec_AddGames.l0]
    exact Ev_pos (by omega) this
/-- What AddGames tells. -/
def agR (a b : List (List Int)) : List (List Int) × Int := if validG a = true ∧ validG b = true then (if a.length * b.length ≤ 60 then (agDone a b b.length, 0) else ([], 3)) else ([], 1)
theorem spec_ag_ev (a b : List (List Int)) (hla : a.length ≤ 1048576) (hra : ∀ mv ∈ a, mv.length ≤ 1048576 ∧ ∀ x ∈ mv, -128 ≤ x ∧ x ≤ 127) (hlb : b.length ≤ 1048576) (hrb : ∀ mv ∈ b, mv.length ≤ 1048576 ∧ ∀ x ∈ mv, -128 ≤ x ∧ x ≤ 127) :
    Ev (fun k => spec_AddGames.f k a b) (agR a b) := by
  have j0f : ∀ (r : List (List Int) × Int), r = ([], 1) → Ev (fun k => spec_AddGames.j0 k a b true) r := by
    intro r hr
    refine Ev_round ?_
    simp only [spec_AddGames.j0]
    exact Ev_pos (by simp) (Ev_as (Ev.now _) hr.symm)
  unfold agR
  by_cases ca : validG a = true
  · by_cases cb : validG b = true
    · rw [if_pos ⟨ca, cb⟩]
      refine Ev.bind (spec_ok_ev a hla hra) (Ev_pos ca (Ev.bind (spec_ok_ev b hlb hrb) ?_))
      rw [cb]
      refine Ev_round ?_
      simp only [spec_AddGames.j0]
      have h1 := valid_len ca
      have h2 := valid_len cb
      have h3 := Nat.mul_le_mul h1.2 h2.2
      have h4 : (a.length : Int) * (b.length : Int) = ((a.length * b.length : Nat) : Int) := by simp
      rw [h4, w64 (by omega) (by omega)]
      refine Ev_neg (by simp) ?_
      by_cases c : a.length * b.length ≤ 60
      · rw [if_pos c]
        exact Ev_neg (by omega) (spec_ag_loop a b ca cb c b.length 0 (by omega))
      · rw [if_neg c]
        exact Ev_pos (by omega) (Ev.now _)
    · rw [if_neg (fun h => cb h.2)]
      refine Ev.bind (spec_ok_ev a hla hra) (Ev_pos ca (Ev.bind (spec_ok_ev b hlb hrb) ?_))
      rw [Bool.eq_false_iff.mpr cb]
      exact j0f _ rfl
  · rw [if_neg (fun h => ca h.1)]
    exact Ev.bind (spec_ok_ev a hla hra) (Ev_neg ca (j0f _ rfl))
theorem agRow_len (n : Nat) (down across : List Int) (k i : Nat) : (agRow n down across k i).length = down.length + across.length := by simp [agRow]

theorem impl_valid_ev (g : List (List Int)) (hl : g.length ≤ 1048576) (hr : ∀ mv ∈ g, mv.length ≤ 1048576 ∧ ∀ x ∈ mv, -128 ≤ x ∧ x ≤ 127) : Ev (fun k => impl_ValidGame.f k g) (validG g) := by
  -- the moves of one place, from one of them on
  have inner : ∀ (n : Nat) (hn : n < g.length) (r : Bool), Ev (fun k => impl_ValidGame.l0 k g g g.length ((n + 1 : Nat) : Int)) r →
      ∀ (d j : Nat) (p : Int), j + d = g[n].length → (j = 0 → p = -1) → (∀ h : 0 < j, ∀ h' : j - 1 < g[n].length, p = g[n][j - 1]) → -1 ≤ p →
        Ev (fun k => impl_ValidGame.l1 k g (n : Int) g[n] g g.length (n : Int) g[n] g[n].length (j : Int)) (okFrom n p (g[n].drop j) && r) := by
    intro n hn r hnext d
    have hmv := hr _ (List.getElem_mem hn)
    induction d with
    | zero =>
      intro j p h _ _ _
      obtain rfl : j = g[n].length := by omega
      refine Ev_round ?_
      simp only [impl_ValidGame.l1]
      refine Ev_neg (by omega) ?_
      rw [w64 (by omega) (by omega), List.drop_length]
      exact Ev_as hnext (by simp [okFrom])
    | succ d ih =>
      intro j p h h0 h1 hp
      have hj : j < g[n].length := by omega
      have hx := hmv.2 _ (List.getElem_mem hj)
      refine Ev_round ?_
      simp only [impl_ValidGame.l1]
      refine Ev_pos (by omega) (Ev_pos (by omega) (Ev_pos (by omega) ?_))
      rw [List.drop_eq_getElem_cons hj, rd_nat hj, w64 (by omega) (by omega), w64 (x := (n : Int) - 1) (by omega) (by omega)]
      unfold impl_within.f
      by_cases c0 : 0 ≤ g[n][j]
      · by_cases c1 : g[n][j] ≤ (n : Int) - 1
        · refine Ev_bind1 (if_pos c0) (Ev_pos (by simpa using c1) ?_)
          have e0 : wrap64 ((j : Int) + 1) = ((j + 1 : Nat) : Int) := by rw [w64 (by omega) (by omega)]; omega
          rw [e0]
          by_cases cj : (j : Int) > 0
          · have e1 : wrap64 ((j : Int) - 1) = ((j - 1 : Nat) : Int) := by rw [w64 (by omega) (by omega)]; omega
            rw [e1]
            refine Ev_pos cj (Ev_pos (by omega) (Ev_pos (by omega) ?_))
            rw [rd_nat (show j - 1 < g[n].length by omega)]
            have hpp := h1 (by omega) (by omega)
            by_cases c2 : g[n][j] ≤ g[n][j - 1]'(by omega)
            · refine Ev_pos c2 (Ev_as (Ev.now _) ?_)
              have : ¬ (p < g[n][j] ∧ 0 ≤ g[n][j] ∧ g[n][j] ≤ (n : Int) - 1) := by omega
              simp [okFrom, this]
            · refine Ev_neg c2 (Ev_as (ih (j + 1) g[n][j] (by omega) (by omega) (fun _ _ => by simp) (by omega)) ?_)
              have : p < g[n][j] ∧ 0 ≤ g[n][j] ∧ g[n][j] ≤ (n : Int) - 1 := by omega
              simp [okFrom, this]
          · refine Ev_neg cj (Ev_as (ih (j + 1) g[n][j] (by omega) (by omega) (fun _ _ => by simp) (by omega)) ?_)
            have hp0 := h0 (by omega)
            have : p < g[n][j] ∧ 0 ≤ g[n][j] ∧ g[n][j] ≤ (n : Int) - 1 := by omega
            simp [okFrom, this]
        · refine Ev_bind1 (if_pos c0) (Ev_neg (by simpa using c1) (Ev_as (Ev.now _) ?_))
          have : ¬ (p < g[n][j] ∧ 0 ≤ g[n][j] ∧ g[n][j] ≤ (n : Int) - 1) := by omega
          simp [okFrom, this]
      · refine Ev_bind1 (if_neg c0) (Ev_neg (by simp) (Ev_as (Ev.now _) ?_))
        have : ¬ (p < g[n][j] ∧ 0 ≤ g[n][j] ∧ g[n][j] ≤ (n : Int) - 1) := by omega
        simp [okFrom, this]
  have outer : ∀ (d n : Nat), n + d = g.length → Ev (fun k => impl_ValidGame.l0 k g g g.length (n : Int)) (okRows n (g.drop n) && decide (1 ≤ g.length ∧ g.length ≤ 60)) := by
    intro d
    induction d with
    | zero =>
      intro n h
      obtain rfl : n = g.length := by omega
      refine Ev_round ?_
      simp only [impl_ValidGame.l0]
      refine Ev_neg (by omega) ?_
      unfold impl_within.f
      rw [List.drop_length]
      by_cases c0 : 1 ≤ (g.length : Int)
      · refine Ev_bind1 (if_pos c0) (Ev_as (Ev.now _) ?_)
        simp only [okRows, Bool.true_and]
        apply decide_eq_decide.2
        omega
      · refine Ev_bind1 (if_neg c0) (Ev_as (Ev.now _) ?_)
        simp [okRows]
        omega
    | succ d ih =>
      intro n h
      have hn : n < g.length := by omega
      refine Ev_round ?_
      simp only [impl_ValidGame.l0]
      refine Ev_pos (by omega) (Ev_pos (by omega) (Ev_pos (by omega) ?_))
      rw [rdL2_nat hn, List.drop_eq_getElem_cons hn]
      refine Ev_as (inner n hn _ (ih (n + 1) (by omega)) g[n].length 0 (-1) (by omega) (fun _ => rfl) (fun h _ => by omega) (by omega)) ?_
      simp [okRows, Bool.and_assoc]
  exact Ev_as (outer g.length 0 (by omega)) (by simp [validG])

theorem less8 (x y : Int) : cmp_Less_int8.f x y = some (decide (x < y)) := by
  unfold cmp_Less_int8.f cmp_isNaN_int8.f
  simp
theorem rise_at {l : List Int} (hp : l.Pairwise (· ≤ ·)) (i : Nat) (h : i + 1 < l.length) : rd l (i : Int) ≤ rd l ((i + 1 : Nat) : Int) := by
  rw [rd_nat (by omega), rd_nat h]
  exact List.pairwise_iff_getElem.1 hp i (i + 1) (by omega) h (by omega)
theorem insertion_ev (l : List Int) (hp : l.Pairwise (· ≤ ·)) (hl : l.length ≤ 1000) : Ev (fun k => slices_insertionSortOrdered_int8.f k l 0 (l.length : Int)) l := by
  have main : ∀ (d n : Nat), n + 1 + d = max l.length 1 → Ev (fun k => slices_insertionSortOrdered_int8.l0 k l 0 (l.length : Int) ((n + 1 : Nat) : Int)) l := by
    intro d
    induction d with
    | zero =>
      intro n h
      refine Ev_round ?_
      simp only [slices_insertionSortOrdered_int8.l0]
      exact Ev_neg (by omega) (Ev.now _)
    | succ d ih =>
      intro n h
      have hn : n + 1 < l.length := by omega
      have hr := rise_at hp n hn
      refine Ev_round ?_
      simp only [slices_insertionSortOrdered_int8.l0]
      refine Ev_pos (by omega) (Ev_round ?_)
      simp only [slices_insertionSortOrdered_int8.l1]
      rw [w64 (x := ((n + 1 : Nat) : Int) - 1) (by omega) (by omega), w64 (x := ((n + 1 : Nat) : Int) + 1) (by omega) (by omega), show ((n + 1 : Nat) : Int) - 1 = (n : Int) by omega, show ((n + 1 : Nat) : Int) + 1 = ((n + 1 + 1 : Nat) : Int) by omega]
      refine Ev_pos (by omega) (Ev_pos (by omega) (Ev_pos (by omega) (Ev_pos (by omega) (Ev_pos (by omega) (Ev_bind1 (less8 _ _) (Ev_neg (by simpa using hr) ?_))))))
      exact ih (n + 1) (by omega)
  have := main (max l.length 1 - 1) 0 (by omega)
  unfold slices_insertionSortOrdered_int8.f
  rw [w64 (x := (0 : Int) + 1) (by omega) (by omega)]
  exact this
theorem pdq_ev (l : List Int) (hp : l.Pairwise (· ≤ ·)) (hl : l.length ≤ 12) (L : Int) : Ev (fun k => slices_pdqsortOrdered_int8.f k l 0 (l.length : Int) L) l := by
  refine Ev_round ?_
  simp only [slices_pdqsortOrdered_int8.f]
  refine Ev_round ?_
  simp only [slices_pdqsortOrdered_int8.l0]
  rw [w64 (x := (l.length : Int) - 0) (by omega) (by omega)]
  exact Ev_pos (by omega) (Ev.bind (insertion_ev l hp (by omega)) (Ev.now _))
theorem len_ev (n : Nat) (hn : n < 256) : ∃ L, Ev (fun k => bits_Len.f k (IntKind.u64.wrap (n : Int))) L := by
  rw [wu64 (by omega) (by omega)]
  apply Exists.intro
  unfold bits_Len.f
  apply Ev.bind
  · unfold bits_Len64.f
    apply Ev_neg (by omega)
    apply Ev_round
    apply Ev.congr (fun k => bits_Len64.j0.eq_2 (n : Int) 0 k)
    apply Ev_neg (by omega)
    apply Ev_neg (by omega)
    apply Ev_pos (by omega)
    apply Ev_pos (by omega)
    exact Ev.now _
  · exact Ev.now _
theorem sort8_ev (l : List Int) (hp : l.Pairwise (· ≤ ·)) (hl : l.length ≤ 12) : Ev (fun k => slices_Sort_int8_int8.f k l) l := by
  obtain ⟨L, h1⟩ := len_ev l.length (by omega)
  exact Ev.bind h1 (Ev.bind (pdq_ev l hp hl L) (Ev.now _))

theorem agRow_rise (n k i : Nat) (hi : i < n) (down across : List Int) (hd : down.Pairwise (· < ·)) (ha : across.Pairwise (· < ·)) (hdx : ∀ x ∈ down, 0 ≤ x ∧ x ≤ (k : Int) - 1) (hax : ∀ x ∈ across, 0 ≤ x ∧ x ≤ (i : Int) - 1) : (agRow n down across k i).Pairwise (· ≤ ·) := by
  unfold agRow
  rw [List.pairwise_append]
  refine ⟨?_, ?_, ?_⟩
  · rw [List.pairwise_map]
    refine hd.imp ?_
    intro x y h
    have := Int.mul_le_mul_of_nonneg_left (show x ≤ y by omega) (show (0 : Int) ≤ (n : Int) by omega)
    omega
  · rw [List.pairwise_map]
    refine ha.imp ?_
    intro x y h
    omega
  · intro x hx y hy
    obtain ⟨t, ht, rfl⟩ := List.mem_map.1 hx
    obtain ⟨u, hu, rfl⟩ := List.mem_map.1 hy
    have h1 := hdx t ht
    have h2 := hax u hu
    have := Int.mul_le_mul_of_nonneg_left (show t + 1 ≤ (k : Int) by omega) (show (0 : Int) ≤ (n : Int) by omega)
    rw [Int.mul_add, Int.mul_one] at this
    omega
set_option maxHeartbeats 1000000 in
theorem impl_ag_row (a b : List (List Int)) (ha : validG a = true) (hb : validG b = true) (h7 : a.length ≤ 7 ∧ b.length ≤ 7) (hab : a.length * b.length ≤ 60) (k i : Nat) (hk : k < b.length) (hi : i < a.length) (Q : List (List Int)) (hQ : Q.length ≤ 60) (R : List (List Int) × Int)
    (hn : Ev (fun q => impl_AddGames.l1 q a (Q ++ [agRow a.length b[k] a[i] k i]) (a.length : Int) (k : Int) b[k] b (b.length : Int) (k : Int) a (a.length : Int) ((i + 1 : Nat) : Int)) R) :
    Ev (fun q => impl_AddGames.l2 q a Q (a.length : Int) (k : Int) b[k] (i : Int) a[i] [] b (b.length : Int) (k : Int) a (a.length : Int) (i : Int) b[k] (b[k].length : Int) 0) R := by
  have hbl := valid_row_len hb k hk
  have hal := valid_row_len ha i hi
  have hbx := valid_at hb k hk
  have hax := valid_at ha i hi
  have hlb := valid_len hb
  have hla := valid_len ha
  have hrise := agRow_rise a.length k i hi b[k] a[i] (valid_rise hb k hk) (valid_rise ha i hi) hbx hax
  have hrl := agRow_len a.length b[k] a[i] k i
  have hkk : a.length * (k + 1) ≤ 60 := Nat.le_trans (Nat.mul_le_mul_left _ (show k + 1 ≤ b.length by omega)) hab
  generalize b[k] = down at *
  generalize a[i] = across at *
  have second : ∀ (d j : Nat), j + d = across.length → Ev (fun q => impl_AddGames.l3 q a Q (a.length : Int) (k : Int) down (down.map (fun t => (i : Int) + (a.length : Int) * t) ++ (across.take j).map (fun t => t + (a.length : Int) * (k : Int))) b (b.length : Int) (k : Int) a (a.length : Int) (i : Int) across (across.length : Int) (j : Int)) R := by
    intro d
    induction d with
    | zero =>
      intro j hj
      obtain rfl : j = across.length := by omega
      refine Ev_round ?_
      simp only [impl_AddGames.l3]
      rw [List.take_length, w64 (x := (i : Int) + 1) (by omega) (by omega)]
      exact Ev_neg (by omega) (Ev.bind (sort8_ev _ hrise (by rw [List.length_append, List.length_map, List.length_map]; omega)) (Ev_pos (by omega) hn))
    | succ d ih =>
      intro j hj
      have hjl : j < across.length := by omega
      have hx := hax _ (List.getElem_mem hjl)
      have nx := ih (j + 1) (by omega)
      rw [take_map_succ _ _ _ hjl, ← List.append_assoc] at nx
      refine Ev_round ?_
      simp only [impl_AddGames.l3]
      rw [rd_nat hjl, w64 (x := (j : Int) + 1) (by omega) (by omega)]
      generalize across[j] = t at hx nx
      obtain ⟨T, rfl⟩ := Int.eq_ofNat_of_zero_le hx.1
      have hlen : (down.map (fun t => (i : Int) + (a.length : Int) * t) ++ (across.take j).map (fun t => t + (a.length : Int) * (k : Int))).length < 140737488355328 := by
        rw [List.length_append, List.length_map, List.length_map, List.length_take]; omega
      refine Ev_pos (by omega) (Ev_pos (by omega) (Ev_pos (by omega) (Ev_pos hlen ?_)))
      rw [ag_across' a.length k T (by omega) hkk]
      exact nx
  have first : ∀ (d j : Nat), j + d = down.length → Ev (fun q => impl_AddGames.l2 q a Q (a.length : Int) (k : Int) down (i : Int) across ((down.take j).map (fun t => (i : Int) + (a.length : Int) * t)) b (b.length : Int) (k : Int) a (a.length : Int) (i : Int) down (down.length : Int) (j : Int)) R := by
    intro d
    induction d with
    | zero =>
      intro j hj
      obtain rfl : j = down.length := by omega
      refine Ev_round ?_
      simp only [impl_AddGames.l2]
      have s2 := second across.length 0 (by omega)
      rw [List.take_zero, List.map_nil, List.append_nil] at s2
      rw [List.take_length]
      exact Ev_neg (by omega) s2
    | succ d ih =>
      intro j hj
      have hjl : j < down.length := by omega
      have hx := hbx _ (List.getElem_mem hjl)
      have nx := ih (j + 1) (by omega)
      rw [take_map_succ _ _ _ hjl] at nx
      refine Ev_round ?_
      simp only [impl_AddGames.l2]
      rw [rd_nat hjl, w64 (x := (j : Int) + 1) (by omega) (by omega)]
      generalize down[j] = t at hx nx
      obtain ⟨T, rfl⟩ := Int.eq_ofNat_of_zero_le hx.1
      have hlen : ((down.take j).map (fun t => (i : Int) + (a.length : Int) * t)).length < 140737488355328 := by
        rw [List.length_map, List.length_take]; omega
      refine Ev_pos (by omega) (Ev_pos (by omega) (Ev_pos (by omega) (Ev_pos hlen ?_)))
      rw [ag_down' a.length k i T hi (by omega) (Nat.le_trans (Nat.mul_le_mul_left _ (by omega)) hkk)]
      exact nx
  have := first down.length 0 (by omega)
  rw [List.take_zero, List.map_nil] at this
  exact this
set_option maxHeartbeats 1000000 in
theorem impl_ag_loop (a b : List (List Int)) (ha : validG a = true) (hb : validG b = true) (h7 : a.length ≤ 7 ∧ b.length ≤ 7) (hab : a.length * b.length ≤ 60) :
    ∀ (d k : Nat), k + d = b.length → Ev (fun q => impl_AddGames.l0 q a (agDone a b k) (a.length : Int) b (b.length : Int) (k : Int)) (agDone a b b.length, 0) := by
  have hlb := valid_len hb
  have hla := valid_len ha
  intro d
  induction d with
  | zero =>
    intro k h
    obtain rfl : k = b.length := by omega
    refine Ev_round ?_
    simp only [impl_AddGames.l0]
    exact Ev_neg (by omega) (Ev.now _)
  | succ d ih =>
    intro k h
    have hk : k < b.length := by omega
    have nx := ih (k + 1) (by omega)
    rw [agDone_succ, getD_at hk] at nx
    have hl1 := agDone_len a b k
    have hkk : a.length * (k + 1) ≤ 60 := Nat.le_trans (Nat.mul_le_mul_left _ (show k + 1 ≤ b.length by omega)) hab
    rw [Nat.mul_succ] at hkk
    have inner : ∀ (e i : Nat), i + e = a.length → Ev (fun q => impl_AddGames.l1 q a (agDone a b k ++ agBlock a b[k] k i) (a.length : Int) (k : Int) b[k] b (b.length : Int) (k : Int) a (a.length : Int) (i : Int)) (agDone a b b.length, 0) := by
      intro e
      induction e with
      | zero =>
        intro i hi
        obtain rfl : i = a.length := by omega
        refine Ev_round ?_
        simp only [impl_AddGames.l1]
        refine Ev_neg (by omega) ?_
        rw [w64 (by omega) (by omega)]
        exact nx
      | succ e ihe =>
        intro i hi
        have hia : i < a.length := by omega
        have nx2 := ihe (i + 1) (by omega)
        rw [agBlock_succ, getD_at hia, ← List.append_assoc] at nx2
        refine Ev_round ?_
        simp only [impl_AddGames.l1]
        have hl2 := agBlock_len a b[k] k i
        rw [rdL2_nat hia]
        exact Ev_pos (by omega) (Ev_pos (by omega) (Ev_pos (by omega) (impl_ag_row a b ha hb h7 hab k i hk hia _ (by rw [List.length_append, hl1, hl2]; omega) _ nx2)))
    have := inner a.length 0 (by omega)
    rw [show agBlock a b[k] k 0 = [] from rfl, List.append_nil] at this
    refine Ev_round ?_
    simp only [impl_AddGames.l0]
    rw [rdL2_nat hk]
    exact Ev_pos (by omega) (Ev_pos (by omega) (Ev_pos (by omega) this))
theorem impl_ag7_ev (a b : List (List Int)) (ca : validG a = true) (cb : validG b = true) (h7 : a.length ≤ 7 ∧ b.length ≤ 7) (ha : a.length ≤ 1048576 ∧ ∀ mv ∈ a, mv.length ≤ 1048576 ∧ ∀ x ∈ mv, -128 ≤ x ∧ x ≤ 127) (hb : b.length ≤ 1048576 ∧ ∀ mv ∈ b, mv.length ≤ 1048576 ∧ ∀ x ∈ mv, -128 ≤ x ∧ x ≤ 127) :
    Ev (fun k => impl_AddGames.f k a b) (agDone a b b.length, 0) := by
  refine Ev.bind (impl_valid_ev a ha.1 ha.2) (Ev_pos ca (Ev.bind (impl_valid_ev b hb.1 hb.2) ?_))
  rw [cb]
  refine Ev_round ?_
  simp only [impl_AddGames.j0]
  have h3 := Nat.mul_le_mul h7.1 h7.2
  have h4 : (a.length : Int) * (b.length : Int) = ((a.length * b.length : Nat) : Int) := by simp
  rw [h4, w64 (by omega) (by omega), wi8 (by omega) (by omega)]
  refine Ev_neg (by simp) ?_
  exact Ev_neg (by omega) (impl_ag_loop a b ca cb h7 (by omega) b.length 0 (by omega))

theorem seed_range (x : Int) : 0 ≤ IntKind.u64.wrap x ∧ IntKind.u64.wrap x ≤ 18446744073709551615 := by rw [IntKind.wrap_u64]; omega
theorem low8 (x : Int) : 0 ≤ wrap64 (Go.bits .and .u64 (IntKind.u64.wrap x / 1099511627776) 255) ∧ wrap64 (Go.bits .and .u64 (IntKind.u64.wrap x / 1099511627776) 255) ≤ 255 := by
  have h := seed_range x
  generalize IntKind.u64.wrap x = y at h
  have hd : 0 ≤ y / 1099511627776 ∧ y / 1099511627776 < 18446744073709551616 := by omega
  generalize y / 1099511627776 = z at hd
  rw [u64_and z 255 hd.1 hd.2 (by omega) (by omega)]
  have : z.toNat &&& (255 : Int).toNat ≤ 255 := Nat.and_le_right
  rw [w64 (by omega) (by omega)]
  omega
/-- A byte is drawn. -/
theorem next_ok (bs : List Int) (hb : ∀ x ∈ bs, 0 ≤ x ∧ x ≤ 255) (hl : bs.length ≤ 4096) (i : Nat) (hi : i ≤ 1000000) (sd : Int) : ∃ v sd', spec_l00Src_next.f bs (i : Int) sd = some (v, ((i + 1 : Nat) : Int), sd') ∧ 0 ≤ v ∧ v ≤ 255 := by
  unfold spec_l00Src_next.f
  have e1 : wrap64 ((i : Int) + 1) = ((i + 1 : Nat) : Int) := by rw [w64 (by omega) (by omega)]; omega
  rw [e1]
  by_cases c : i < bs.length
  · rw [if_pos (by omega), if_pos (by omega)]
    have hv := hb _ (rd_mem (xs := bs) (i := (i : Int)) (by omega) (by omega))
    rw [if_pos (by omega)]
    refine ⟨_, _, rfl, ?_⟩
    rw [w64 (by omega) (by omega)]
    exact hv
  · rw [if_neg (by omega), if_neg (by omega)]
    exact ⟨_, _, rfl, low8 _⟩

/-- A number below n is drawn. -/
theorem pick_ok (bs : List Int) (hb : ∀ x ∈ bs, 0 ≤ x ∧ x ≤ 255) (hl : bs.length ≤ 4096) (i : Nat) (hi : i ≤ 1000000) (sd : Int) (n : Int) (h1 : 1 < n) (h2 : n ≤ 200) : ∃ v sd', spec_l00Src_pick.f bs (i : Int) sd n = some (v, ((i + 1 : Nat) : Int), sd') ∧ 0 ≤ v ∧ v < n := by
  obtain ⟨v, sd', h, h3, h4⟩ := next_ok bs hb hl i hi sd
  unfold spec_l00Src_pick.f
  rw [if_neg (by omega), h]
  simp only [Option.bind_some]
  rw [if_neg (by omega), if_neg (by omega)]
  refine ⟨_, _, rfl, ?_⟩
  rw [Int.tmod_eq_emod_of_nonneg h3]
  exact ⟨Int.emod_nonneg _ (by omega), Int.emod_lt_of_pos _ (by omega)⟩

theorem one_ok (bs : List Int) (hb : ∀ x ∈ bs, 0 ≤ x ∧ x ≤ 255) (hl : bs.length ≤ 4096) (i : Nat) (hi : i ≤ 1000000) (sd : Int) (n : Int) (h1 : 1 < n) (h2 : n ≤ 200) : ∃ v sd', spec_l00Src_one.f bs (i : Int) sd n = some (v, ((i + 1 : Nat) : Int), sd') := by
  obtain ⟨v, sd', h, _, _⟩ := pick_ok bs hb hl i hi sd n h1 h2
  unfold spec_l00Src_one.f
  rw [h]
  exact ⟨_, _, rfl⟩
theorem okRows_snoc : ∀ (g : List (List Int)) (i : Nat) (mv : List Int), okRows i g = true → okFrom ((i + g.length : Nat) : Int) (-1) mv = true → okRows i (g ++ [mv]) = true := by
  intro g
  induction g with
  | nil => intro i mv _ h; simpa [okRows] using h
  | cons x t ih =>
    intro i mv h h2
    rw [List.cons_append]
    simp only [okRows, Bool.and_eq_true] at h ⊢
    refine ⟨h.1, ih (i + 1) mv h.2 ?_⟩
    rw [List.length_cons] at h2
    rw [show i + 1 + t.length = i + (t.length + 1) by omega]
    exact h2
theorem okFrom_of {i : Int} : ∀ {mv : List Int} {p : Int}, mv.Pairwise (· < ·) → (∀ x ∈ mv, p < x ∧ 0 ≤ x ∧ x ≤ i - 1) → okFrom i p mv = true := by
  intro mv
  induction mv with
  | nil => intro p _ _; rfl
  | cons y t ih =>
    intro p h hx
    rw [List.pairwise_cons] at h
    simp only [okFrom, Bool.and_eq_true, decide_eq_true_eq]
    refine ⟨hx y (by simp), ih h.2 (fun x hm => ?_)⟩
    have h1 := h.1 x hm
    have h2 := hx x (by simp [hm])
    omega
theorem dr_end (rows : List (List Int)) (P n od : Int) (bs : List Int) (pos sd : Int) (h : ¬ n < P) : Ev (fun k => spec_l03Drawn.l0 k rows P od n bs pos sd) (rows, pos, sd) := by
  refine Ev_round ?_
  simp only [spec_l03Drawn.l0]
  exact Ev_neg (by omega) (Ev.now _)
theorem dr_go (rows : List (List Int)) (P n od : Int) (bs : List Int) (pos sd : Int) (h : n < P) (r) (h1 : Ev (fun k => spec_l03Drawn.l1 k rows P od n [] 0 bs pos sd) r) : Ev (fun k => spec_l03Drawn.l0 k rows P od n bs pos sd) r := by
  refine Ev_round ?_
  simp only [spec_l03Drawn.l0]
  refine Ev_pos (by omega) ?_
  exact h1
theorem dr_row (rows : List (List Int)) (P od : Int) (n : Nat) (mv bs : List Int) (pos sd : Int) (hn : n ≤ 60) (r) (hq : rows.length < 5864062014805) (h1 : Ev (fun k => spec_l03Drawn.l0 k (rows ++ [mv]) P od ((n + 1 : Nat) : Int) bs pos sd) r) : Ev (fun k => spec_l03Drawn.l1 k rows P od (n : Int) mv (n : Int) bs pos sd) r := by
  have e2 : wrap64 ((n : Int) + 1) = ((n + 1 : Nat) : Int) := by rw [w64 (by omega) (by omega)]; omega
  refine Ev_round ?_
  simp only [spec_l03Drawn.l1]
  rw [e2]
  refine Ev_neg (by omega) (Ev_pos hq ?_)
  exact h1
theorem dr_no (rows : List (List Int)) (P n od : Int) (j : Nat) (mv bs : List Int) (pos sd pos' sd' : Int) (hj : j ≤ 60) (h : (j : Int) < n) (r) (e1 : spec_l00Src_one.f bs pos sd od = some (false, pos', sd')) (h1 : Ev (fun k => spec_l03Drawn.l1 k rows P od n mv ((j + 1 : Nat) : Int) bs pos' sd') r) : Ev (fun k => spec_l03Drawn.l1 k rows P od n mv (j : Int) bs pos sd) r := by
  have e2 : wrap64 ((j : Int) + 1) = ((j + 1 : Nat) : Int) := by rw [w64 (by omega) (by omega)]; omega
  refine Ev_round ?_
  simp only [spec_l03Drawn.l1]
  rw [e1, e2]
  simp only [Option.bind_some, Bool.false_eq_true, if_false]
  refine Ev_pos (by omega) ?_
  exact h1
theorem dr_yes (rows : List (List Int)) (P n od : Int) (j : Nat) (mv bs : List Int) (pos sd pos' sd' : Int) (hj : j ≤ 60) (h : (j : Int) < n) (r) (hq : mv.length < 140737488355328) (e1 : spec_l00Src_one.f bs pos sd od = some (true, pos', sd')) (h1 : Ev (fun k => spec_l03Drawn.l1 k rows P od n (mv ++ [(j : Int)]) ((j + 1 : Nat) : Int) bs pos' sd') r) : Ev (fun k => spec_l03Drawn.l1 k rows P od n mv (j : Int) bs pos sd) r := by
  have e2 : wrap64 ((j : Int) + 1) = ((j + 1 : Nat) : Int) := by rw [w64 (by omega) (by omega)]; omega
  have e3 : IntKind.i8.wrap (j : Int) = (j : Int) := wi8 (by omega) (by omega)
  refine Ev_round ?_
  simp only [spec_l03Drawn.l1]
  rw [e1, e2, e3]
  simp only [Option.bind_some, if_true]
  refine Ev_pos (by omega) (Ev_pos hq ?_)
  exact h1
/-- One row of moves is drawn. -/
theorem dr_inner (bs : List Int) (hb : ∀ x ∈ bs, 0 ≤ x ∧ x ≤ 255) (hl : bs.length ≤ 4096) (P : Nat) (od : Int) (ho1 : 1 < od) (ho2 : od ≤ 200) (rows : List (List Int)) (n : Nat) (hn : n ≤ 11) (hr : rows.length = n) (ho : okRows 0 rows = true) (Q : List (List Int) → Prop)
    (ih : ∀ (rs : List (List Int)) (pos : Nat) (sd : Int), rs.length = n + 1 → okRows 0 rs = true → pos ≤ 2 + 12 * n + n → ∃ g i s, Ev (fun k => spec_l03Drawn.l0 k rs (P : Int) od ((n + 1 : Nat) : Int) bs (pos : Int) sd) (g, i, s) ∧ Q g) :
    ∀ (e j : Nat), j + e = n → ∀ (mv : List Int) (pos : Nat) (sd : Int), mv.length ≤ j → mv.Pairwise (· < ·) → (∀ x ∈ mv, 0 ≤ x ∧ x < (j : Int)) → pos ≤ 2 + 12 * n + j →
      ∃ g i s, Ev (fun k => spec_l03Drawn.l1 k rows (P : Int) od (n : Int) mv (j : Int) bs (pos : Int) sd) (g, i, s) ∧ Q g := by
  intro e
  induction e with
  | zero =>
    intro j hj mv pos sd hml hpw hx hp
    obtain rfl : j = n := by omega
    have hok : okRows 0 (rows ++ [mv]) = true := okRows_snoc rows 0 mv ho (okFrom_of hpw (fun x hm => by have := hx x hm; omega))
    have hlen : (rows ++ [mv]).length = j + 1 := by rw [List.length_append, hr]; rfl
    obtain ⟨g, i, s, h1, h2⟩ := ih (rows ++ [mv]) pos sd hlen hok (by omega)
    exact ⟨g, i, s, dr_row rows _ _ j mv bs _ _ (by omega) _ (by omega) h1, h2⟩
  | succ e ihe =>
    intro j hj mv pos sd hml hpw hx hp
    obtain ⟨v, s', e1⟩ := one_ok bs hb hl pos (by omega) sd od ho1 ho2
    cases v with
    | true =>
      have hpw2 : (mv ++ [(j : Int)]).Pairwise (· < ·) := by
        rw [List.pairwise_append]
        refine ⟨hpw, List.pairwise_singleton _ _, fun x hm y hy => ?_⟩
        rw [List.mem_singleton.1 hy]
        exact (hx x hm).2
      have hx2 : ∀ x ∈ mv ++ [(j : Int)], 0 ≤ x ∧ x < ((j + 1 : Nat) : Int) := by
        intro x hm
        rcases List.mem_append.1 hm with hm | hm
        · have := hx x hm
          omega
        · rw [List.mem_singleton.1 hm]
          omega
      have hlen : (mv ++ [(j : Int)]).length ≤ j + 1 := by rw [List.length_append]; simp; omega
      obtain ⟨g, i, s, h1, h2⟩ := ihe (j + 1) (by omega) (mv ++ [(j : Int)]) (pos + 1) s' hlen hpw2 hx2 (by omega)
      exact ⟨g, i, s, dr_yes rows _ _ _ j mv bs _ _ _ _ (by omega) (by omega) _ (by omega) e1 h1, h2⟩
    | false =>
      obtain ⟨g, i, s, h1, h2⟩ := ihe (j + 1) (by omega) mv (pos + 1) s' (by omega) hpw (fun x hm => by have := hx x hm; omega) (by omega)
      exact ⟨g, i, s, dr_no rows _ _ _ j mv bs _ _ _ _ (by omega) (by omega) _ e1 h1, h2⟩
theorem dr_loop (bs : List Int) (hb : ∀ x ∈ bs, 0 ≤ x ∧ x ≤ 255) (hl : bs.length ≤ 4096) (P : Nat) (od : Int) (hP : P ≤ 12) (ho1 : 1 < od) (ho2 : od ≤ 200) : ∀ (d n : Nat), n + d = P → ∀ (rows : List (List Int)) (pos : Nat) (sd : Int), rows.length = n → okRows 0 rows = true → pos ≤ 2 + 12 * n →
    ∃ g i s, Ev (fun k => spec_l03Drawn.l0 k rows (P : Int) od (n : Int) bs (pos : Int) sd) (g, i, s) ∧ okRows 0 g = true ∧ g.length = P := by
  intro d
  induction d with
  | zero =>
    intro n hn rows pos sd hr ho hp
    exact ⟨rows, (pos : Int), sd, dr_end rows _ _ _ _ _ _ (by omega), ho, by omega⟩
  | succ d ih =>
    intro n hn rows pos sd hr ho hp
    obtain ⟨g, i, s, h1, h2⟩ := dr_inner bs hb hl P od ho1 ho2 rows n (by omega) hr ho (fun g => okRows 0 g = true ∧ g.length = P)
      (fun rs pos sd h1 h2 h3 => ih (n + 1) (by omega) rs pos sd h1 h2 (by omega)) n 0 (by omega) [] pos sd (Nat.le_refl _) List.Pairwise.nil (fun x hm => by cases hm) (by omega)
    exact ⟨g, i, s, dr_go rows _ _ _ _ _ _ (by omega) _ h1, h2⟩
/-- A valid game is drawn. -/
theorem drawn_ok (bs : List Int) (hb : ∀ x ∈ bs, 0 ≤ x ∧ x ≤ 255) (hl : bs.length ≤ 4096) : ∃ g i sd, Ev (fun k => spec_l03Drawn.f k bs 0 0) (g, i, sd) ∧ validG g = true ∧ g.length ≤ 12 := by
  obtain ⟨v, s1, e1, a1, b1⟩ := pick_ok bs hb hl 0 (by omega) 0 12 (by omega) (by omega)
  obtain ⟨u, s2, e2, a2, b2⟩ := pick_ok bs hb hl 1 (by omega) s1 3 (by omega) (by omega)
  obtain ⟨p, rfl⟩ := Int.eq_ofNat_of_zero_le a1
  obtain ⟨g, i, s, h1, h2, h3⟩ := dr_loop bs hb hl (1 + p) (2 + u) (by omega) (by omega) (by omega) (1 + p) 0 (by omega) [] 2 s2 rfl rfl (by omega)
  have w1 : wrap64 (1 + (p : Int)) = ((1 + p : Nat) : Int) := by rw [w64 (by omega) (by omega)]; omega
  have w2 : wrap64 (2 + u) = 2 + u := w64 (by omega) (by omega)
  have hv : validG g = true := by
    unfold validG
    rw [h2, h3]
    simp
    omega
  refine ⟨g, i, s, ?_, hv, by omega⟩
  unfold spec_l03Drawn.f
  have e1' : spec_l00Src_pick.f bs 0 0 12 = some ((p : Int), ((0 + 1 : Nat) : Int), s1) := e1
  have e2' : spec_l00Src_pick.f bs ((0 + 1 : Nat) : Int) s1 3 = some (u, ((1 + 1 : Nat) : Int), s2) := e2
  rw [e1']
  simp only [Option.bind_some]
  rw [e2']
  simp only [Option.bind_some]
  rw [w1, w2]
  exact h1

/-- A valid game of 7 places at most is drawn. -/
theorem small_ok (bs : List Int) (hb : ∀ x ∈ bs, 0 ≤ x ∧ x ≤ 255) (hl : bs.length ≤ 4096) : ∃ g, Ev (fun k => spec_P6Small.f k bs) g ∧ validG g = true ∧ g.length ≤ 7 := by
  obtain ⟨g, i, sd, h1, h2, h3⟩ := drawn_ok bs hb hl
  by_cases c : g.length ≤ 7
  · refine ⟨g, ?_, h2, c⟩
    unfold spec_P6Small.f spec_l00From.f
    exact Ev_bind1 (a := (bs, 0, 0)) rfl (Ev.bind h1 (Ev_neg (by simp only; omega) (Ev.now _)))
  · refine ⟨g.take 7, ?_, ?_, by rw [List.length_take]; omega⟩
    · unfold spec_P6Small.f spec_l00From.f
      exact Ev_bind1 (a := (bs, 0, 0)) rfl (Ev.bind h1 (Ev_pos (by simp only; omega) (Ev_pos (by simp only; omega) (Ev.now _))))
    · have hv := valid_len h2
      simp only [validG, Bool.and_eq_true] at h2
      unfold validG
      rw [okRows_take 7 h2.1, List.length_take]
      simp
      omega

theorem spec_same_ev (g h : List (List Int)) (hg : g.length ≤ 1048576) (hr : ∀ mv ∈ g, mv.length ≤ 1048576) : Ev (fun k => spec_SameGame.f k g h) (decide (g = h)) := by
  by_cases hl : g.length = h.length
  · have main : ∀ (d n : Nat), n + d = g.length → g.take n = h.take n → Ev (fun k => spec_SameGame.l0 k g h (n : Int)) (decide (g = h)) := by
      intro d
      induction d with
      | zero =>
        intro n h1 h3
        refine Ev_round ?_
        simp only [spec_SameGame.l0]
        refine Ev_neg (by omega) (Ev_as (Ev.now _) ?_)
        rw [List.take_of_length_le (by omega), List.take_of_length_le (by omega)] at h3
        simp [h3]
      | succ d ih =>
        intro n h1 h3
        have hn : n < g.length := by omega
        have hm : n < h.length := by omega
        refine Ev_round ?_
        simp only [spec_SameGame.l0]
        refine Ev_pos (by omega) (Ev_pos (by omega) (Ev_pos (by omega) ?_))
        rw [rdL2_nat hn, rdL2_nat hm]
        by_cases e : g[n].length = h[n].length
        · refine Ev_pos (by omega) ?_
          have hrl := hr _ (List.getElem_mem hn)
          have inner : ∀ (c j : Nat), j + c = g[n].length → g[n].take j = h[n].take j → Ev (fun k => spec_SameGame.l1 k g h (n : Int) (j : Int)) (decide (g = h)) := by
            intro c
            induction c with
            | zero =>
              intro j hj hp
              refine Ev_round ?_
              simp only [spec_SameGame.l1]
              rw [rdL2_nat hn, rdL2_nat hm]
              refine Ev_pos (by omega) (Ev_pos (by omega) (Ev_neg (by omega) ?_))
              rw [w64 (by omega) (by omega)]
              rw [List.take_of_length_le (by omega), List.take_of_length_le (by omega)] at hp
              refine ih (n + 1) (by omega) ?_
              rw [List.take_succ_eq_append_getElem hn, List.take_succ_eq_append_getElem hm, h3, hp]
            | succ c ihc =>
              intro j hj hp
              have hj1 : j < g[n].length := by omega
              have hj2 : j < h[n].length := by omega
              refine Ev_round ?_
              simp only [spec_SameGame.l1]
              rw [rdL2_nat hn, rdL2_nat hm, rd_nat hj1, rd_nat hj2, w64 (x := (j : Int) + 1) (by omega) (by omega)]
              refine Ev_pos (by omega) (Ev_pos (by omega) (Ev_pos (by omega) (Ev_pos (by omega) (Ev_pos (by omega) (Ev_pos (by omega) ?_)))))
              by_cases q : g[n][j] = h[n][j]
              · refine Ev_pos q (ihc (j + 1) (by omega) ?_)
                rw [List.take_succ_eq_append_getElem hj1, List.take_succ_eq_append_getElem hj2, hp, q]
              · refine Ev_neg q (Ev_as (Ev.now _) ?_)
                have : g ≠ h := fun x => q (by subst x; rfl)
                simp [this]
          exact inner g[n].length 0 (by omega) (by simp)
        · refine Ev_neg (by omega) (Ev_as (Ev.now _) ?_)
          have : g ≠ h := fun x => e (by subst x; rfl)
          simp [this]
    exact Ev_pos (by omega) (main g.length 0 (by omega) (by simp))
  · refine Ev_neg (by omega) (Ev_as (Ev.now _) ?_)
    have : g ≠ h := fun e => hl (by rw [e])
    simp [this]

theorem index_false_ev (fl : List Bool) (n : Nat) (hn : n < fl.length) (hl : fl.length ≤ 9223372036854775806) (h1 : fl[n] = false) (h2 : ∀ m (hm : m < n), fl[m] = true) :
    Ev (fun k => slices_Index_bool_bool.f k fl false) (n : Int) := by
  have main : ∀ (d m : Nat), m + d = n → Ev (fun k => slices_Index_bool_bool.l0 k fl false fl.length (m : Int)) (n : Int) := by
    intro d
    induction d with
    | zero =>
      intro m hm
      obtain rfl : m = n := by omega
      refine Ev_round ?_
      simp only [slices_Index_bool_bool.l0]
      refine Ev_pos (by omega) (Ev_pos (by omega) (Ev_pos (by omega) (Ev_pos ?_ (Ev.now _))))
      simp [rdOf, List.getD_eq_getElem?_getD, List.getElem?_eq_getElem hn, h1]
    | succ d ih =>
      intro m hm
      refine Ev_round ?_
      simp only [slices_Index_bool_bool.l0]
      refine Ev_pos (by omega) (Ev_pos (by omega) (Ev_pos (by omega) (Ev_neg ?_ ?_)))
      · simp [rdOf, List.getD_eq_getElem?_getD, List.getElem?_eq_getElem (show m < fl.length by omega), h2 m (by omega)]
      · rw [w64 (by omega) (by omega)]
        exact ih (m + 1) (by omega)
  exact main n 0 (by omega)

theorem mex_index (l : List Int) : (mexN l < (flags (l.length + 1) l).length) ∧ (∀ h, (flags (l.length + 1) l)[mexN l]'h = false) ∧ ∀ m (hm : m < mexN l) h, (flags (l.length + 1) l)[m]'h = true := by
  have hm := mexN_is l
  have hle := mexN_le l
  refine ⟨by rw [flags_length]; omega, fun h => ?_, fun m hlt h => ?_⟩
  · rw [flags_get]; simp [hm.1]
  · rw [flags_get]; simp [hm.2 m hlt]
theorem impl_mex_ev (l : List Int) (hl : l.length ≤ 140737488355327) (hr : ∀ x ∈ l, 0 ≤ x ∧ x ≤ 65535) : Ev (fun k => impl_mex.f k l) ((mexN l : Nat) : Int) := by
  have main : ∀ (d n : Nat), n + d = l.length → Ev (fun k => impl_mex.l0 k (flags (l.length + 1) (l.take n)) l l.length (n : Int)) ((mexN l : Nat) : Int) := by
    intro d
    induction d with
    | zero =>
      intro n h
      obtain rfl : n = l.length := by omega
      refine Ev_round ?_
      simp only [impl_mex.l0]
      refine Ev_neg (by omega) (Ev.bind ?_ (Ev.now _))
      rw [List.take_length]
      obtain ⟨a, b, c⟩ := mex_index l
      exact index_false_ev _ _ a (by rw [flags_length]; omega) (b a) (fun m hm => c m hm (by omega))
    | succ d ih =>
      intro n h
      have hn : n < l.length := by omega
      have hx := hr _ (List.getElem_mem hn)
      have ht : l.take (n + 1) = l.take n ++ [l[n]] := by rw [List.take_succ_eq_append_getElem hn]
      refine Ev_round ?_
      simp only [impl_mex.l0]
      refine Ev_pos (by omega) (Ev_pos (by omega) (Ev_pos (by omega) ?_))
      rw [rd_nat hn, w64 (by omega) (by omega), w64 (by omega) (by omega), flags_length]
      have nx := ih (n + 1) (by omega)
      rw [ht] at nx
      by_cases c : l[n] < ((l.length + 1 : Nat) : Int)
      · refine Ev_pos c (Ev_pos (by omega) (Ev_pos c ?_))
        rw [flags_set _ _ _ (by omega), Int.toNat_of_nonneg hx.1]
        exact nx
      · refine Ev_neg c ?_
        rw [flags_out _ _ _ (by omega)] at nx
        exact nx
  unfold impl_mex.f
  rw [w64 (by omega) (by omega)]
  refine Ev_pos (by omega) (Ev_pos (by omega) ?_)
  have := main l.length 0 (by omega)
  rw [List.take_zero, flags_nil] at this
  exact this

theorem impl_values_ev (g : List (List Int)) (h : validG g = true) : Ev (fun k => impl_Game_values.f k g) (GV g) := by
  have hl := valid_len h
  have outer : ∀ (d n : Nat), n + d = g.length → Ev (fun k => impl_Game_values.l0 k ((g.take n).foldl gvStep []) g g.length (n : Int)) (GV g) := by
    intro d
    induction d with
    | zero =>
      intro n hn
      obtain rfl : n = g.length := by omega
      refine Ev_round ?_
      simp only [impl_Game_values.l0]
      refine Ev_neg (by omega) (Ev_as (Ev.now _) ?_)
      rw [List.take_length]
      rfl
    | succ d ih =>
      intro n hn
      have hlt : n < g.length := by omega
      have nx := ih (n + 1) (by omega)
      rw [gvs_take n hlt] at nx
      have ho := gvs_len g n (by omega)
      have hr := gvs_range h n (by omega)
      generalize (g.take n).foldl gvStep [] = out at *
      have hx := valid_at h n hlt
      have hrl := valid_row_len h n hlt
      refine Ev_round ?_
      simp only [impl_Game_values.l0]
      refine Ev_pos (by omega) (Ev_pos (by omega) (Ev_pos (by omega) ?_))
      rw [rdL2_nat hlt]
      have inner : ∀ (e j : Nat), j + e = g[n].length → Ev (fun k => impl_Game_values.l1 k out ((g[n].take j).map (rd out)) g g.length (n : Int) g[n] g[n].length (j : Int)) (GV g) := by
        intro e
        induction e with
        | zero =>
          intro j hj
          obtain rfl : j = g[n].length := by omega
          refine Ev_round ?_
          simp only [impl_Game_values.l1]
          refine Ev_neg (by omega) ?_
          rw [List.take_length]
          have hm := mexN_le (g[n].map (rd out))
          simp only [List.length_map] at hm
          refine Ev.bind (impl_mex_ev _ (by simp; omega) (fun x hx' => ?_)) (Ev_pos (by omega) ?_)
          · obtain ⟨y, hy, rfl⟩ := List.mem_map.1 hx'
            obtain ⟨a, b⟩ := hx y hy
            have := hr _ (rd_mem (xs := out) a (by omega))
            omega
          · rw [wu16 (by omega) (by omega), w64 (by omega) (by omega)]
            exact nx
        | succ e ihe =>
          intro j hj
          have hjl : j < g[n].length := by omega
          obtain ⟨a, b⟩ := hx _ (List.getElem_mem hjl)
          refine Ev_round ?_
          simp only [impl_Game_values.l1]
          refine Ev_pos (by omega) (Ev_pos (by omega) (Ev_pos (by omega) ?_))
          rw [rd_nat hjl]
          refine Ev_pos a (Ev_pos (by omega) (Ev_pos (by simp; omega) ?_))
          rw [w64 (by omega) (by omega)]
          have := ihe (j + 1) (by omega)
          rw [List.take_succ_eq_append_getElem hjl, List.map_append] at this
          exact this
      exact inner g[n].length 0 (by omega)
  exact outer g.length 0 (by omega)

/-- The game of a heap. -/
def heapG (n : Nat) : List (List Int) := (List.range n).map fun i => (List.range i).map fun j : Nat => (j : Int)
theorem heapG_succ (n : Nat) : heapG (n + 1) = heapG n ++ [(List.range n).map fun j : Nat => (j : Int)] := by simp [heapG, List.range_succ]
/-- What HeapGame answers. -/
def heapR (a : Int) : List (List Int) × Int := if 0 ≤ a ∧ a ≤ 59 then (heapG (a.toNat + 1), 0) else ([], 2)
theorem impl_heap_ev (h : Nat) (hh : h ≤ 59) : ∀ (d n : Nat), n + d = h + 1 → Ev (fun k => impl_HeapGame.l0 k (heapG n) ((h + 1 : Nat) : Int) (n : Int)) (heapG (h + 1), 0) := by
  intro d
  induction d with
  | zero =>
    intro n hn
    obtain rfl : n = h + 1 := by omega
    refine Ev_round ?_
    simp only [impl_HeapGame.l0]
    exact Ev_neg (by omega) (Ev.now _)
  | succ d ih =>
    intro n hn
    refine Ev_round ?_
    simp only [impl_HeapGame.l0]
    refine Ev_pos (by omega) ?_
    have inner : ∀ (e j : Nat), j + e = n → Ev (fun k => impl_HeapGame.l1 k (heapG n) ((List.range j).map fun j : Nat => (j : Int)) ((h + 1 : Nat) : Int) (n : Int) (n : Int) (j : Int)) (heapG (h + 1), 0) := by
      intro e
      induction e with
      | zero =>
        intro j hj
        obtain rfl : j = n := by omega
        refine Ev_round ?_
        simp only [impl_HeapGame.l1]
        refine Ev_neg (by omega) (Ev_pos (by simp [heapG]; omega) ?_)
        rw [← heapG_succ, wi8 (by omega) (by omega)]
        exact ih (j + 1) (by omega)
      | succ e ihe =>
        intro j hj
        refine Ev_round ?_
        simp only [impl_HeapGame.l1]
        refine Ev_pos (by omega) (Ev_pos (by simp; omega) ?_)
        rw [wi8 (by omega) (by omega)]
        have := ihe (j + 1) (by omega)
        rw [List.range_succ, List.map_append] at this
        exact this
    exact inner n 0 (by omega)
theorem impl_heap_f (a : Int) (ha : -9223372036854775808 ≤ a ∧ a ≤ 9223372036854775807) : Ev (fun k => impl_HeapGame.f k a) (heapR a) := by
  unfold impl_HeapGame.f impl_within.f
  by_cases c0 : 0 ≤ a
  · by_cases c1 : a ≤ 59
    · have hR : heapR a = (heapG (a.toNat + 1), 0) := by unfold heapR; exact if_pos ⟨c0, c1⟩
      rw [hR]
      obtain ⟨h, rfl⟩ := Int.eq_ofNat_of_zero_le c0
      refine Ev_bind1 (if_pos c0) (Ev_pos (by simpa using c1) ?_)
      rw [w64 (by omega) (by omega), wi8 (by omega) (by omega)]
      exact impl_heap_ev h (by omega) (h + 1) 0 (by omega)
    · have hR : heapR a = ([], 2) := by unfold heapR; exact if_neg (fun h => c1 h.2)
      rw [hR]
      exact Ev_bind1 (if_pos c0) (Ev_neg (by simpa using c1) (Ev.now _))
  · have hR : heapR a = ([], 2) := by unfold heapR; exact if_neg (fun h => c0 h.1)
    rw [hR]
    exact Ev_bind1 (if_neg c0) (Ev_neg (by simp) (Ev.now _))

theorem spec_heap_ev (h : Nat) (hh : h ≤ 59) : ∀ (d n : Nat), n + d = h + 1 → Ev (fun k => spec_HeapGame.l0 k (h : Int) (heapG n) (n : Int)) (heapG (h + 1), 0) := by
  intro d
  induction d with
  | zero =>
    intro n hn
    obtain rfl : n = h + 1 := by omega
    refine Ev_round ?_
    simp only [spec_HeapGame.l0]
    exact Ev_neg (by omega) (Ev.now _)
  | succ d ih =>
    intro n hn
    refine Ev_round ?_
    simp only [spec_HeapGame.l0]
    refine Ev_pos (by omega) ?_
    have inner : ∀ (e j : Nat), j + e = n → Ev (fun k => spec_HeapGame.l1 k (h : Int) (heapG n) (n : Int) ((List.range j).map fun j : Nat => (j : Int)) (j : Int)) (heapG (h + 1), 0) := by
      intro e
      induction e with
      | zero =>
        intro j hj
        obtain rfl : j = n := by omega
        refine Ev_round ?_
        simp only [spec_HeapGame.l1]
        refine Ev_neg (by omega) (Ev_pos (by simp [heapG]; omega) ?_)
        rw [← heapG_succ, w64 (by omega) (by omega)]
        exact ih (j + 1) (by omega)
      | succ e ihe =>
        intro j hj
        refine Ev_round ?_
        simp only [spec_HeapGame.l1]
        refine Ev_pos (by omega) (Ev_pos (by simp; omega) ?_)
        rw [w64 (by omega) (by omega), wi8 (by omega) (by omega)]
        have := ihe (j + 1) (by omega)
        rw [List.range_succ, List.map_append] at this
        exact this
    exact inner n 0 (by omega)
theorem spec_heap_f (a : Int) (ha : -9223372036854775808 ≤ a ∧ a ≤ 9223372036854775807) : Ev (fun k => spec_HeapGame.f k a) (heapR a) := by
  unfold spec_HeapGame.f spec_l00In.f
  by_cases c0 : 0 ≤ a
  · by_cases c1 : a ≤ 59
    · have hR : heapR a = (heapG (a.toNat + 1), 0) := by unfold heapR; exact if_pos ⟨c0, c1⟩
      rw [hR]
      obtain ⟨h, rfl⟩ := Int.eq_ofNat_of_zero_le c0
      exact Ev_bind1 (if_pos c0) (Ev_pos (by simpa using c1) (spec_heap_ev h (by omega) (h + 1) 0 (by omega)))
    · have hR : heapR a = ([], 2) := by unfold heapR; exact if_neg (fun h => c1 h.2)
      rw [hR]
      exact Ev_bind1 (if_pos c0) (Ev_neg (by simpa using c1) (Ev.now _))
  · have hR : heapR a = ([], 2) := by unfold heapR; exact if_neg (fun h => c0 h.1)
    rw [hR]
    exact Ev_bind1 (if_neg c0) (Ev_neg (by simp) (Ev.now _))

theorem agBlock_get (a : List (List Int)) (down : List Int) (k : Nat) : ∀ (I i : Nat), i < I → (agBlock a down k I)[i]? = some (agRow a.length down (a.getD i []) k i) := by
  intro I
  induction I with
  | zero => intro i h; omega
  | succ I ih =>
    intro i h
    have hl := agBlock_len a down k I
    rw [agBlock_succ]
    by_cases c : i < I
    · rw [List.getElem?_append_left (by omega)]
      exact ih i c
    · obtain rfl : i = I := by omega
      rw [List.getElem?_append_right (by omega), hl, Nat.sub_self]
      rfl
theorem agDone_get (a b : List (List Int)) : ∀ (K k i : Nat), k < K → i < a.length → (agDone a b K)[i + a.length * k]? = some (agRow a.length (b.getD k []) (a.getD i []) k i) := by
  intro K
  induction K with
  | zero => intro k i h; omega
  | succ K ih =>
    intro k i h hi
    have hl := agDone_len a b K
    rw [agDone_succ]
    by_cases c : k < K
    · have := Nat.mul_le_mul_left a.length (show k + 1 ≤ K by omega)
      rw [Nat.mul_succ] at this
      rw [List.getElem?_append_left (by omega)]
      exact ih k i c hi
    · obtain rfl : k = K := by omega
      rw [List.getElem?_append_right (by omega), hl, show i + a.length * k - a.length * k = i by omega]
      exact agBlock_get a _ k a.length i hi
theorem agRow_lt (n k i : Nat) (hi : i < n) (down across : List Int) (hd : down.Pairwise (· < ·)) (ha : across.Pairwise (· < ·)) (hdx : ∀ x ∈ down, 0 ≤ x ∧ x ≤ (k : Int) - 1) (hax : ∀ x ∈ across, 0 ≤ x ∧ x ≤ (i : Int) - 1) : (agRow n down across k i).Pairwise (· < ·) := by
  unfold agRow
  rw [List.pairwise_append]
  refine ⟨?_, ?_, ?_⟩
  · rw [List.pairwise_map]
    refine hd.imp ?_
    intro x y h
    have := Int.mul_lt_mul_of_pos_left h (show (0 : Int) < (n : Int) by omega)
    omega
  · rw [List.pairwise_map]
    refine ha.imp ?_
    intro x y h
    omega
  · intro x hx y hy
    obtain ⟨t, ht, rfl⟩ := List.mem_map.1 hx
    obtain ⟨u, hu, rfl⟩ := List.mem_map.1 hy
    have h1 := hdx t ht
    have h2 := hax u hu
    have := Int.mul_le_mul_of_nonneg_left (show t + 1 ≤ (k : Int) by omega) (show (0 : Int) ≤ (n : Int) by omega)
    rw [Int.mul_add, Int.mul_one] at this
    omega
theorem agRow_in (n k i : Nat) (hi : i < n) (down across : List Int) (hdx : ∀ x ∈ down, 0 ≤ x ∧ x ≤ (k : Int) - 1) (hax : ∀ x ∈ across, 0 ≤ x ∧ x ≤ (i : Int) - 1) : ∀ x ∈ agRow n down across k i, 0 ≤ x ∧ x ≤ ((i + n * k : Nat) : Int) - 1 := by
  intro x hx
  unfold agRow at hx
  have hnk : ((i + n * k : Nat) : Int) = (i : Int) + (n : Int) * (k : Int) := by simp
  have h0 := Int.mul_nonneg (show (0 : Int) ≤ (n : Int) by omega) (show (0 : Int) ≤ (k : Int) by omega)
  rw [hnk]
  rcases List.mem_append.1 hx with hx | hx
  · obtain ⟨t, ht, rfl⟩ := List.mem_map.1 hx
    have h1 := hdx t ht
    have h2 := Int.mul_le_mul_of_nonneg_left (show t + 1 ≤ (k : Int) by omega) (show (0 : Int) ≤ (n : Int) by omega)
    have h3 := Int.mul_nonneg (show (0 : Int) ≤ (n : Int) by omega) h1.1
    rw [Int.mul_add, Int.mul_one] at h2
    omega
  · obtain ⟨t, ht, rfl⟩ := List.mem_map.1 hx
    have h1 := hax t ht
    omega
theorem okRows_of : ∀ (g : List (List Int)) (i : Nat), (∀ (j : Nat) (h : j < g.length), okFrom ((i + j : Nat) : Int) (-1) g[j] = true) → okRows i g = true := by
  intro g
  induction g with
  | nil => intro i _; rfl
  | cons mv t ih =>
    intro i h
    simp only [okRows, Bool.and_eq_true]
    refine ⟨h 0 (by simp), ih (i + 1) (fun j hj => ?_)⟩
    have := h (j + 1) (by simpa using hj)
    rw [show i + 1 + j = i + (j + 1) by omega]
    simpa using this
/-- A place of the sum, by its two parts. -/
theorem ag_at (a b : List (List Int)) (k i : Nat) (hk : k < b.length) (hi : i < a.length) : ∃ h : i + a.length * k < (agDone a b b.length).length, (agDone a b b.length)[i + a.length * k] = agRow a.length b[k] a[i] k i := by
  have h := agDone_get a b b.length k i hk hi
  rw [getD_at hk, getD_at hi] at h
  exact List.getElem?_eq_some_iff.1 h
theorem ag_split (a b : List (List Int)) (j : Nat) (h : j < (agDone a b b.length).length) : ∃ k i : Nat, k < b.length ∧ i < a.length ∧ j = i + a.length * k := by
  rw [agDone_len] at h
  have hp : 0 < a.length := by
    apply Nat.pos_of_ne_zero
    intro h0
    rw [h0] at h
    omega
  exact ⟨j / a.length, j % a.length, Nat.div_lt_of_lt_mul h, Nat.mod_lt _ hp, (Nat.mod_add_div j a.length).symm⟩
theorem ag_valid (a b : List (List Int)) (ha : validG a = true) (hb : validG b = true) (hab : a.length * b.length ≤ 60) : validG (agDone a b b.length) = true := by
  have hla := valid_len ha
  have hlb := valid_len hb
  have hp : 1 ≤ a.length * b.length := Nat.mul_pos (by omega) (by omega)
  have hr : okRows 0 (agDone a b b.length) = true := by
    refine okRows_of _ 0 (fun j hj => ?_)
    obtain ⟨k, i, hk, hi, rfl⟩ := ag_split a b j hj
    obtain ⟨h, e⟩ := ag_at a b k i hk hi
    rw [e, Nat.zero_add]
    refine okFrom_of (agRow_lt a.length k i hi _ _ (valid_rise hb k hk) (valid_rise ha i hi) (valid_at hb k hk) (valid_at ha i hi)) (fun x hx => ?_)
    have := agRow_in a.length k i hi _ _ (valid_at hb k hk) (valid_at ha i hi) x hx
    omega
  unfold validG
  rw [hr, agDone_len]
  simp
  omega
/-- The value of a place, as a number. -/
def gvN (g : List (List Int)) (j : Nat) : Nat := mexN ((g.getD j []).map (rd (GV g)))
theorem gvN_rd {g : List (List Int)} (h : validG g = true) (j : Nat) (hj : j < g.length) : rd (GV g) (j : Int) = ((gvN g j : Nat) : Int) := by
  rw [GV_at h j hj]
  unfold gvN
  rw [getD_at hj]
theorem gvN_is {g : List (List Int)} (h : validG g = true) (j : Nat) (hj : j < g.length) : IsMex (g[j].map (rd (GV g))) (gvN g j) := by
  have := mexN_is (g[j].map (rd (GV g)))
  unfold gvN
  rw [getD_at hj]
  exact this
theorem gvN_le {g : List (List Int)} (h : validG g = true) (j : Nat) (hj : j < g.length) : gvN g j ≤ j := by
  have := GV_range h j hj
  rw [gvN_rd h j hj] at this
  omega
/-- No move keeps the value. -/
theorem gvN_ne {g : List (List Int)} (h : validG g = true) (j t : Nat) (hj : j < g.length) (ht : (t : Int) ∈ g[j]) : t < j ∧ gvN g t ≠ gvN g j := by
  have hx := valid_at h j hj _ ht
  refine ⟨by omega, fun e => (gvN_is h j hj).1 ?_⟩
  rw [← e, ← gvN_rd h t (by omega)]
  exact List.mem_map.2 ⟨_, ht, rfl⟩
/-- A move leads to every lesser value. -/
theorem gvN_ex {g : List (List Int)} (h : validG g = true) (j m : Nat) (hj : j < g.length) (hm : m < gvN g j) : ∃ t : Nat, t < j ∧ (t : Int) ∈ g[j] ∧ gvN g t = m := by
  obtain ⟨x, hx, e⟩ := List.mem_map.1 ((gvN_is h j hj).2 m hm)
  have hr := valid_at h j hj x hx
  obtain ⟨t, rfl⟩ := Int.eq_ofNat_of_zero_le hr.1
  rw [gvN_rd h t (by omega)] at e
  exact ⟨t, by omega, hx, by omega⟩
theorem agRow_mem (n k i : Nat) (down across : List Int) (x : Int) : x ∈ agRow n down across k i ↔ (∃ t, t ∈ down ∧ x = (i : Int) + (n : Int) * t) ∨ (∃ t, t ∈ across ∧ x = t + (n : Int) * (k : Int)) := by
  unfold agRow
  rw [List.mem_append, List.mem_map, List.mem_map]
  constructor
  · rintro (⟨t, h, rfl⟩ | ⟨t, h, rfl⟩)
    · exact .inl ⟨t, h, rfl⟩
    · exact .inr ⟨t, h, rfl⟩
  · rintro (⟨t, h, rfl⟩ | ⟨t, h, rfl⟩)
    · exact .inl ⟨t, h, rfl⟩
    · exact .inr ⟨t, h, rfl⟩
theorem xor_l {x y z : Nat} (h : x ^^^ z = y ^^^ z) : x = y := by
  have := congrArg (fun n => n ^^^ z) h
  simpa [Nat.xor_assoc] using this
theorem xor_r {x y z : Nat} (h : z ^^^ x = z ^^^ y) : x = y := by
  have := congrArg (fun n => z ^^^ n) h
  simpa [← Nat.xor_assoc] using this
/-- The value of a sum is the sum of the values. -/
theorem ag_value (a b : List (List Int)) (ha : validG a = true) (hb : validG b = true) (hab : a.length * b.length ≤ 60) : ∀ (d k i : Nat), i + k < d → k < b.length → i < a.length → gvN (agDone a b b.length) (i + a.length * k) = gvN a i ^^^ gvN b k := by
  have hD := ag_valid a b ha hb hab
  intro d
  induction d with
  | zero => intro k i h; omega
  | succ d ih =>
    intro k i h hk hi
    obtain ⟨hp, e⟩ := ag_at a b k i hk hi
    have hm := gvN_is hD _ hp
    rw [e] at hm
    refine hm.unique ⟨?_, ?_⟩
    · intro hmem
      obtain ⟨x, hx, ex⟩ := List.mem_map.1 hmem
      rcases (agRow_mem _ _ _ _ _ _).1 hx with ⟨t, ht, rfl⟩ | ⟨t, ht, rfl⟩
      · have hr := valid_at hb k hk t ht
        obtain ⟨T, rfl⟩ := Int.eq_ofNat_of_zero_le hr.1
        obtain ⟨h1, h2⟩ := gvN_ne hb k T hk ht
        obtain ⟨hq, _⟩ := ag_at a b T i (by omega) hi
        have ec : (i : Int) + (a.length : Int) * (T : Int) = ((i + a.length * T : Nat) : Int) := by simp
        rw [ec, gvN_rd hD _ hq, ih T i (by omega) (by omega) hi] at ex
        exact h2 (xor_r (z := gvN a i) (by omega))
      · have hr := valid_at ha i hi t ht
        obtain ⟨T, rfl⟩ := Int.eq_ofNat_of_zero_le hr.1
        obtain ⟨h1, h2⟩ := gvN_ne ha i T hi ht
        obtain ⟨hq, _⟩ := ag_at a b k T hk (by omega)
        have ec : (T : Int) + (a.length : Int) * (k : Int) = ((T + a.length * k : Nat) : Int) := by simp
        rw [ec, gvN_rd hD _ hq, ih k T (by omega) hk (by omega)] at ex
        exact h2 (xor_l (z := gvN b k) (by omega))
    · intro m hmm
      rcases nim_less _ _ m hmm with ⟨v, hv, ev⟩ | ⟨v, hv, ev⟩
      · obtain ⟨T, h1, h2, h3⟩ := gvN_ex ha i v hi hv
        obtain ⟨hq, _⟩ := ag_at a b k T hk (by omega)
        have ec : (T : Int) + (a.length : Int) * (k : Int) = ((T + a.length * k : Nat) : Int) := by simp
        refine List.mem_map.2 ⟨(T : Int) + (a.length : Int) * (k : Int), (agRow_mem _ _ _ _ _ _).2 (.inr ⟨_, h2, rfl⟩), ?_⟩
        rw [ec, gvN_rd hD _ hq, ih k T (by omega) hk (by omega), h3, ev]
      · obtain ⟨T, h1, h2, h3⟩ := gvN_ex hb k v hk hv
        obtain ⟨hq, _⟩ := ag_at a b T i (by omega) hi
        have ec : (i : Int) + (a.length : Int) * (T : Int) = ((i + a.length * T : Nat) : Int) := by simp
        refine List.mem_map.2 ⟨(i : Int) + (a.length : Int) * (T : Int), (agRow_mem _ _ _ _ _ _).2 (.inl ⟨_, h2, rfl⟩), ?_⟩
        rw [ec, gvN_rd hD _ hq, ih T i (by omega) (by omega) hi, h3, ev]
theorem valid_bounds {g : List (List Int)} (h : validG g = true) : g.length ≤ 1048576 ∧ ∀ mv ∈ g, mv.length ≤ 1048576 ∧ ∀ x ∈ mv, -128 ≤ x ∧ x ≤ 127 := by
  have hl := valid_len h
  refine ⟨by omega, fun mv hm => ?_⟩
  obtain ⟨j, hj, rfl⟩ := List.getElem_of_mem hm
  have h1 := valid_row_len h j hj
  refine ⟨by omega, fun x hx => ?_⟩
  have := valid_at h j hj x hx
  omega
theorem values_of_ev (g : List (List Int)) (h : validG g = true) : Ev (fun k => impl_ValuesOf.f k g) (GV g, 0) := by
  have hb := valid_bounds h
  exact Ev.bind (impl_valid_ev g hb.1 hb.2) (Ev_pos h (Ev.bind (impl_values_ev g h) (Ev.now _)))
theorem heapG_get (n i : Nat) (h : i < (heapG n).length) : (heapG n)[i] = (List.range i).map fun j : Nat => (j : Int) := by simp [heapG]
theorem heapG_len (n : Nat) : (heapG n).length = n := by simp [heapG]
theorem range_rise (i : Nat) : ((List.range i).map fun j : Nat => (j : Int)).Pairwise (· < ·) := by
  rw [List.pairwise_map]
  exact List.pairwise_lt_range.imp (fun h => by omega)
theorem heapG_valid (n : Nat) (h0 : 1 ≤ n) (h : n ≤ 60) : validG (heapG n) = true := by
  have hr : okRows 0 (heapG n) = true := by
    refine okRows_of _ 0 (fun j hj => ?_)
    rw [heapG_get, Nat.zero_add]
    refine okFrom_of (range_rise j) (fun x hx => ?_)
    obtain ⟨y, hy, rfl⟩ := List.mem_map.1 hx
    have := List.mem_range.1 hy
    omega
  unfold validG
  rw [hr, heapG_len]
  simp
  omega
/-- The value of a heap is its size. -/
theorem heapG_value (n : Nat) (hv : validG (heapG n) = true) : ∀ (d j : Nat), j < d → j < n → gvN (heapG n) j = j := by
  intro d
  induction d with
  | zero => intro j h; omega
  | succ d ih =>
    intro j h hj
    have hjl : j < (heapG n).length := by rw [heapG_len]; exact hj
    have hm := gvN_is hv j hjl
    rw [heapG_get] at hm
    refine hm.unique ⟨?_, ?_⟩
    · intro hmem
      obtain ⟨x, hx, ex⟩ := List.mem_map.1 hmem
      obtain ⟨y, hy, rfl⟩ := List.mem_map.1 hx
      have hyj := List.mem_range.1 hy
      rw [gvN_rd hv y (by omega), ih y (by omega) (by omega)] at ex
      omega
    · intro m hmj
      refine List.mem_map.2 ⟨(m : Int), List.mem_map.2 ⟨m, List.mem_range.2 hmj, rfl⟩, ?_⟩
      rw [gvN_rd hv m (by omega), ih m (by omega) (by omega)]
theorem same_ev (g : List (List Int)) (h : validG g = true) : Ev (fun k => spec_SameGame.f k g g) true := by
  have hb := valid_bounds h
  exact Ev_as (spec_same_ev g g hb.1 (fun mv hm => (hb.2 mv hm).1)) (by simp)
/-- The second half: heaps. -/
theorem heap_half (bs : List Int) (hb : ∀ x ∈ bs, 0 ≤ x ∧ x ≤ 255) (hl : bs.length ≤ 4096) : ∃ v : Nat, v ≤ 19 ∧ spec_P6Pick.f bs 20 = some (v : Int) ∧ heapR (v : Int) = (heapG (v + 1), 0) ∧ validG (heapG (v + 1)) = true ∧
    Ev (fun k => laws_FnSums.j4 k (GV (heapG (v + 1))) (((GV (heapG (v + 1))).length : Int) != (wrap64 ((v : Int) + 1)))) true := by
  obtain ⟨x, sd, e, h0, h1⟩ := pick_ok bs hb hl 0 (by omega) 0 20 (by omega) (by omega)
  obtain ⟨v, rfl⟩ := Int.eq_ofNat_of_zero_le h0
  have hv := heapG_valid (v + 1) (by omega) (by omega)
  have hlen : (GV (heapG (v + 1))).length = v + 1 := by rw [GV_len, heapG_len]
  refine ⟨v, by omega, ?_, ?_, hv, ?_⟩
  · unfold spec_P6Pick.f spec_l00From.f
    simp only [Option.bind_some]
    have e' : spec_l00Src_pick.f bs 0 0 20 = _ := e
    rw [e']
    rfl
  · unfold heapR
    rw [if_pos (by omega)]
    rfl
  · have hloop : ∀ (d n : Nat), n + d = v + 1 → Ev (fun k => laws_FnSums.l1 k (GV (heapG (v + 1))) (n : Int)) true := by
      intro d
      induction d with
      | zero =>
        intro n hn
        refine Ev_round ?_
        simp only [laws_FnSums.l1]
        exact Ev_neg (by omega) (Ev.now _)
      | succ d ih =>
        intro n hn
        have hval := heapG_value (v + 1) hv (n + 1) n (by omega) (by omega)
        have hr := gvN_rd hv n (by rw [heapG_len]; omega)
        rw [hval] at hr
        refine Ev_round ?_
        simp only [laws_FnSums.l1]
        rw [hr, w64 (x := (n : Int) + 1) (by omega) (by omega), w64 (x := (n : Int)) (by omega) (by omega)]
        exact Ev_pos (by omega) (Ev_pos (by omega) (Ev_pos rfl (ih (n + 1) (by omega))))
    rw [hlen, w64 (by omega) (by omega)]
    refine Ev_round ?_
    simp only [laws_FnSums.j4]
    exact Ev_neg (by simp) (hloop (v + 1) 0 (by omega))
theorem tmod_nat (x n : Nat) : Int.tmod (x : Int) (n : Int) = ((x % n : Nat) : Int) := by rw [Int.tmod_eq_emod_of_nonneg (by omega)]; simp
theorem tdiv_nat (x n : Nat) : Int.tdiv (x : Int) (n : Int) = ((x / n : Nat) : Int) := by rw [Int.tdiv_eq_ediv_of_nonneg (by omega)]; simp
set_option maxHeartbeats 1000000 in
theorem FnSums : laws_FnSums.Pure := by
  intro l0 l1 _ _ hw0 _ _ hw1
  refine Ev.rounds (r := true) ?_
  by_cases b0 : (l0.length : Int) > 4096
  · refine Ev_bind1 (a := true) (by unfold laws_f6big.f; rw [decide_eq_true b0]) (Ev_pos rfl (Ev_round ?_))
    simp only [laws_FnSums.j0]
    exact Ev_pos (by simp) (Ev.now _)
  refine Ev_bind1 (a := false) (by unfold laws_f6big.f; rw [decide_eq_false b0]) (Ev_neg (by simp) ?_)
  by_cases b1 : (l1.length : Int) > 4096
  · refine Ev_bind1 (a := true) (by unfold laws_f6big.f; rw [decide_eq_true b1]) (Ev_round ?_)
    simp only [laws_FnSums.j0]
    exact Ev_pos (by simp) (Ev.now _)
  refine Ev_bind1 (a := false) (by unfold laws_f6big.f; rw [decide_eq_false b1]) (Ev_round ?_)
  simp only [laws_FnSums.j0]
  have hb0 := fun x hx => wf_u8 (hw0 x hx)
  have hb1 := fun x hx => wf_u8 (hw1 x hx)
  obtain ⟨a, ea, va, la⟩ := small_ok l0 hb0 (by omega)
  obtain ⟨b, eb, vb, lb⟩ := small_ok l1 hb1 (by omega)
  obtain ⟨v, hv19, epick, ehr, vh, hend⟩ := heap_half l1 hb1 (by omega)
  have hab : a.length * b.length ≤ 60 := Nat.le_trans (Nat.mul_le_mul la lb) (by omega)
  have ba := valid_bounds va
  have bb := valid_bounds vb
  have vD := ag_valid a b va vb hab
  have bD := valid_bounds vD
  have hval := ag_value a b va vb hab
  have hsp := ag_split a b
  have hat := ag_at a b
  have i1 := impl_ag7_ev a b va vb ⟨la, lb⟩ ba bb
  have s1 := spec_ag_ev a b ba.1 ba.2 bb.1 bb.2
  have hR : agR a b = (agDone a b b.length, 0) := by
    unfold agR
    rw [if_pos ⟨va, vb⟩, if_pos hab]
  rw [hR] at s1
  have lD := agDone_len a b b.length
  generalize agDone a b b.length = D at *
  have hla := valid_len va
  have hlb := valid_len vb
  refine Ev_neg (by simp) (Ev.bind ea (Ev.bind eb (Ev.bind i1 (Ev.bind s1 (Ev_pos rfl (Ev_pos rfl (Ev.bind (same_ev D vD) (Ev_pos rfl (Ev.bind (impl_valid_ev D bD.1 bD.2) ?_)))))))))
  rw [vD]
  refine Ev_round ?_
  simp only [laws_FnSums.j1]
  refine Ev_neg (by simp) (Ev.bind (values_of_ev a va) (Ev.bind (values_of_ev b vb) (Ev.bind (values_of_ev D vD) (Ev_pos rfl (Ev_pos rfl (Ev_pos rfl (Ev_pos (by rw [GV_len]) (Ev_pos (by rw [GV_len]) ?_))))))))
  have lx := GV_len a
  have ly := GV_len b
  have lz := GV_len D
  have hmul : (a.length : Int) * (b.length : Int) = ((a.length * b.length : Nat) : Int) := by simp
  have hfl : (((GV D).length : Int) != (wrap64 ((a.length : Int) * (b.length : Int)))) = false := by
    rw [hmul, w64 (by omega) (by omega), lz, lD]
    simp
  rw [hfl]
  refine Ev_round ?_
  simp only [laws_FnSums.j2]
  refine Ev_neg (by simp) ?_
  have rest : ∀ (d n : Nat), n + d = D.length → Ev (fun k => laws_FnSums.l0 k l1 a (GV a) (GV b) (GV D) (n : Int)) true := by
    intro d
    induction d with
    | zero =>
      intro n hn
      refine Ev_round ?_
      simp only [laws_FnSums.l0]
      have hI := impl_heap_f (v : Int) (by omega)
      have hS := spec_heap_f (v : Int) (by omega)
      rw [ehr] at hI hS
      exact Ev_neg (by omega) (Ev_bind1 epick (Ev.bind hI (Ev.bind hS (Ev.bind (values_of_ev _ vh) (Ev_pos rfl (Ev_pos rfl (Ev.bind (same_ev _ vh) (Ev_pos rfl (Ev_pos rfl hend)))))))))
    | succ d ih =>
      intro n hn
      obtain ⟨k, i, hk, hi, rfl⟩ := hsp n (by omega)
      have nx := ih (i + a.length * k + 1) (by omega)
      have hm : (i + a.length * k) % a.length = i := by rw [Nat.add_mul_mod_self_left, Nat.mod_eq_of_lt hi]
      have hd : (i + a.length * k) / a.length = k := by rw [Nat.add_mul_div_left _ _ (by omega), Nat.div_eq_of_lt hi, Nat.zero_add]
      have e1 := gvN_rd vD (i + a.length * k) (by omega)
      rw [hval (i + k + 1) k i (by omega) hk hi] at e1
      have e2 := gvN_rd va i hi
      have e3 := gvN_rd vb k hk
      have g2 := gvN_le va i hi
      have g3 := gvN_le vb k hk
      generalize gvN a i = A at *
      generalize gvN b k = B at *
      clear hval hsp hat ih i1 s1
      generalize i + a.length * k = n at *
      refine Ev_round ?_
      simp only [laws_FnSums.l0]
      rw [tmod_nat, tdiv_nat, hm, hd, w64 (x := (k : Int)) (by omega) (by omega), w64 (x := (n : Int) + 1) (by omega) (by omega), e1, e2, e3]
      have hX : X (A : Int) (B : Int) = ((A ^^^ B : Nat) : Int) := by
        rw [X_nat ⟨by omega, by omega⟩ ⟨by omega, by omega⟩]
        simp
      refine Ev_pos (by omega) (Ev_pos (by omega) (Ev_neg (by omega) (Ev_pos (by omega) (Ev_pos (by omega) (Ev_pos (by omega) (Ev_pos (by omega) ?_))))))
      refine Ev_bind1 (show impl_PlusNim.f (A : Int) (B : Int) = some (X (A : Int) (B : Int)) from rfl) (Ev_pos hX.symm ?_)
      exact nx
  exact rest D.length 0 (by omega)

end Go.Proofs.Yteinllalhiflcaa.Pure
