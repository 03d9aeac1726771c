/- FnExactAddGames: the printed pure statement holds: at every input the law's function answers true; no condition but the bounds of its kinds. -/
import Derived.Test.YteinllalhiflcaaQFnExactAddGamesx
import Derived.Test.YteinllalhiflcaaLib
import Derived.Test.YteinllalhiflcaaWKept
import Derived.Test.YteinllalhiflcaaWApart
import Derived.Test.YteinllalhiflcaaLib3
import Derived.Test.YteinllalhiflcaaWalkFnExactAddGames
set_option linter.unusedVariables false
set_option linter.unusedSimpArgs false
namespace Go.Proofs.Yteinllalhiflcaa.Pure
open Go.RowKit Go.Proofs.Yteinllalhiflcaa.QFnExactAddGames Go.Proofs.YteinllalhiflcaaW.PrintWords Go.Proofs.YteinllalhiflcaaW.PrintLast Go.Proofs.Yteinllalhiflcaa.Lib Go.Proofs.Yteinllalhiflcaa.WalkFnExactAddGames

theorem rdL2_nat {g : List (List Int)} {n : Nat} (h : n < g.length) : rd_L1 g (n : Int) = g[n] := by simp [rd_L1, List.getD_eq_getElem?_getD, List.getElem?_eq_getElem h]

theorem szInt8S_eq (xs : List Int) (a : Int) (hx : xs.length ≤ maxLen) (ha : 0 ≤ a ∧ a ≤ 1048576) : ∃ r, laws_szInt8S.f xs a = some r ∧ r ≤ 1048576 ∧ (0 ≤ r → xs.length ≤ 1048576) := by
  unfold maxLen at hx
  unfold laws_szInt8S.f
  rw [w64 (by omega) (by omega)]
  by_cases c : a - (xs.length : Int) < 0
  · exact ⟨-1, if_pos c, by omega, by omega⟩
  · exact ⟨_, if_neg c, by omega, by omega⟩

theorem szGame_ev (g : List (List Int)) (hg : g.length ≤ maxLen) (hr : ∀ mv ∈ g, mv.length ≤ maxLen) (a : Int) (ha : 0 ≤ a ∧ a ≤ 1048576) :
    ∃ r, Ev (fun k => laws_szGame.f k g a) r ∧ r ≤ 1048576 ∧ (0 ≤ r → g.length ≤ 1048576 ∧ ∀ mv ∈ g, mv.length ≤ 1048576) := by
  unfold maxLen at hg
  unfold laws_szGame.f
  rw [w64 (by omega) (by omega)]
  by_cases c : a - (g.length : Int) < 0
  · exact ⟨-1, Ev_pos c (Ev.now _), by omega, by omega⟩
  · have main : ∀ (d n : Nat) (b : Int), n + d = g.length → 0 ≤ b → b ≤ 1048576 → ∃ r, Ev (fun k => laws_szGame.l0 k g b (n : Int)) r ∧ r ≤ 1048576 ∧ (0 ≤ r → ∀ mv ∈ g.drop n, mv.length ≤ 1048576) := by
      intro d
      induction d with
      | zero =>
        intro n b h h0 h1
        obtain rfl : n = g.length := by omega
        refine ⟨b, Ev_round ?_, h1, by simp⟩
        simp only [laws_szGame.l0]
        exact Ev_neg (by omega) (Ev.now _)
      | succ d ih =>
        intro n b h h0 h1
        have hn : n < g.length := by omega
        obtain ⟨r, hr1, hr2, hr3⟩ := szInt8S_eq g[n] b (hr _ (List.getElem_mem hn)) ⟨h0, h1⟩
        by_cases cr : r < 0
        · refine ⟨-1, Ev_round ?_, by omega, by omega⟩
          simp only [laws_szGame.l0]
          refine Ev_pos (by omega) (Ev_pos (by omega) ?_)
          rw [rdL2_nat hn]
          exact Ev_bind1 hr1 (Ev_pos cr (Ev.now _))
        · obtain ⟨q, hq1, hq2, hq3⟩ := ih (n + 1) r (by omega) (by omega) hr2
          refine ⟨q, Ev_round ?_, hq2, fun hq => ?_⟩
          · simp only [laws_szGame.l0]
            refine Ev_pos (by omega) (Ev_pos (by omega) ?_)
            rw [rdL2_nat hn, w64 (by omega) (by omega)]
            exact Ev_bind1 hr1 (Ev_neg cr hq1)
          · rw [List.drop_eq_getElem_cons hn]
            intro mv hmv
            rcases List.mem_cons.1 hmv with rfl | hmv
            · exact hr3 (by omega)
            · exact hq3 hq mv hmv
    obtain ⟨r, h1, h2, h3⟩ := main g.length 0 (a - g.length) (by omega) (by omega) (by omega)
    exact ⟨r, Ev_neg c h1, h2, fun h => ⟨by omega, by simpa using h3 h⟩⟩

theorem spec_ok_ev (g : List (List Int)) (hl : g.length ≤ 1048576) (hr : ∀ mv ∈ g, mv.length ≤ 1048576 ∧ ∀ x ∈ mv, -128 ≤ x ∧ x ≤ 127) : Ev (fun k => spec_l03Ok.f k g) (validG g) := by
  have inner : ∀ (n : Nat) (hn : n < g.length) (r : Bool), Ev (fun k => spec_l03Ok.l0 k g ((n + 1 : Nat) : Int)) r →
      ∀ (d j : Nat) (p : Int), j + d = g[n].length → -1 ≤ p → p ≤ 127 → Ev (fun k => spec_l03Ok.l1 k g (n : Int) p (j : Int)) (okFrom n p (g[n].drop j) && r) := by
    intro n hn r hnext d
    have hmv := hr _ (List.getElem_mem hn)
    induction d with
    | zero =>
      intro j p h hp hp1
      obtain rfl : j = g[n].length := by omega
      refine Ev_round ?_
      simp only [spec_l03Ok.l1]
      rw [rdL2_nat hn]
      refine Ev_pos (by omega) (Ev_pos (by omega) (Ev_neg (by omega) ?_))
      rw [w64 (by omega) (by omega), List.drop_length]
      exact Ev_as hnext (by simp [okFrom])
    | succ d ih =>
      intro j p h hp hp1
      have hj : j < g[n].length := by omega
      have hx := hmv.2 _ (List.getElem_mem hj)
      refine Ev_round ?_
      simp only [spec_l03Ok.l1]
      rw [rdL2_nat hn]
      refine Ev_pos (by omega) (Ev_pos (by omega) (Ev_pos (by omega) (Ev_pos (by omega) ?_)))
      have e0 : wrap64 ((j : Int) + 1) = ((j + 1 : Nat) : Int) := by rw [w64 (by omega) (by omega)]; omega
      rw [List.drop_eq_getElem_cons hj, rd_nat hj, e0, w64 (x := g[n][j]) (by omega) (by omega), w64 (x := (n : Int) - 1) (by omega) (by omega), w64 (x := p + 1) (by omega) (by omega)]
      unfold spec_l00In.f
      by_cases c : p < g[n][j] ∧ 0 ≤ g[n][j] ∧ g[n][j] ≤ (n : Int) - 1
      · refine Ev_bind1 (if_pos (by omega)) (Ev_pos (by simp; omega) (Ev_as (ih (j + 1) _ (by omega) (by omega) (by omega)) ?_))
        simp [okFrom, c]
      · by_cases c0 : g[n][j] ≥ p + 1
        · refine Ev_bind1 (if_pos c0) (Ev_neg (by simp; omega) (Ev_as (Ev.now _) ?_))
          simp [okFrom, c]
        · refine Ev_bind1 (if_neg c0) (Ev_neg (by simp) (Ev_as (Ev.now _) ?_))
          simp [okFrom, c]
  have outer : ∀ (d n : Nat), n + d = g.length → Ev (fun k => spec_l03Ok.l0 k g (n : Int)) (okRows n (g.drop n) && decide (1 ≤ g.length ∧ g.length ≤ 60)) := by
    intro d
    induction d with
    | zero =>
      intro n h
      obtain rfl : n = g.length := by omega
      refine Ev_round ?_
      simp only [spec_l03Ok.l0]
      refine Ev_neg (by omega) ?_
      unfold spec_l00In.f
      rw [List.drop_length]
      by_cases c0 : (g.length : Int) ≥ 1
      · refine Ev_bind1 (if_pos c0) (Ev_as (Ev.now _) ?_)
        simp only [okRows, Bool.true_and]
        apply decide_eq_decide.2
        omega
      · refine Ev_bind1 (if_neg c0) (Ev_as (Ev.now _) ?_)
        simp [okRows]
        omega
    | succ d ih =>
      intro n h
      have hn : n < g.length := by omega
      refine Ev_round ?_
      simp only [spec_l03Ok.l0]
      refine Ev_pos (by omega) ?_
      rw [List.drop_eq_getElem_cons hn]
      refine Ev_as (inner n hn _ (ih (n + 1) (by omega)) g[n].length 0 (-1) (by omega) (by omega) (by omega)) ?_
      simp [okRows, Bool.and_assoc]
  exact Ev_as (outer g.length 0 (by omega)) (by simp [validG])

/-- The moves from place (i, k): down in the second game, across in the first. -/
def agRow (n : Nat) (down across : List Int) (k i : Nat) : List Int := down.map (fun t => (i : Int) + (n : Int) * t) ++ across.map (fun t => t + (n : Int) * (k : Int))
def agBlock (a : List (List Int)) (down : List Int) (k : Nat) : Nat → List (List Int)
  | 0 => []
  | i + 1 => agBlock a down k i ++ [agRow a.length down (a.getD i []) k i]
def agDone (a b : List (List Int)) : Nat → List (List Int)
  | 0 => []
  | k + 1 => agDone a b k ++ agBlock a (b.getD k []) k a.length
theorem agBlock_succ (a : List (List Int)) (down : List Int) (k i : Nat) : agBlock a down k (i + 1) = agBlock a down k i ++ [agRow a.length down (a.getD i []) k i] := rfl
theorem agDone_succ (a b : List (List Int)) (k : Nat) : agDone a b (k + 1) = agDone a b k ++ agBlock a (b.getD k []) k a.length := rfl
theorem agBlock_len (a : List (List Int)) (down : List Int) (k : Nat) : ∀ i, (agBlock a down k i).length = i := by
  intro i
  induction i with
  | zero => rfl
  | succ i ih => rw [agBlock_succ, List.length_append, ih]; rfl
theorem agDone_len (a b : List (List Int)) : ∀ k, (agDone a b k).length = a.length * k := by
  intro k
  induction k with
  | zero => rfl
  | succ k ih => rw [agDone_succ, List.length_append, ih, agBlock_len, Nat.mul_succ]
theorem okFrom_rise {i : Int} : ∀ {mv : List Int} {p : Int}, okFrom i p mv = true → mv.Pairwise (· < ·) ∧ ∀ x ∈ mv, p < x := by
  intro mv
  induction mv with
  | nil => intro p _; exact ⟨List.Pairwise.nil, fun x hx => by cases hx⟩
  | cons y t ih =>
    intro p h
    simp only [okFrom, Bool.and_eq_true, decide_eq_true_eq] at h
    obtain ⟨h1, h2⟩ := ih h.2
    refine ⟨List.pairwise_cons.2 ⟨h2, h1⟩, fun x hx => ?_⟩
    rcases List.mem_cons.1 hx with rfl | hx
    · exact h.1.1
    · have := h2 x hx
      omega
theorem valid_rise {g : List (List Int)} (h : validG g = true) (j : Nat) (hj : j < g.length) : g[j].Pairwise (· < ·) := by
  simp only [validG, Bool.and_eq_true] at h
  have := okRows_at h.1 j hj
  exact (okFrom_rise this).1
/-- What a step down, or across, leads to, in the small. -/
theorem ag_num (n k i T : Nat) (hi : i < n) (hT : T < k) (hk : n * k ≤ 60) : ∃ P : Nat, (n : Int) * (T : Int) = (P : Int) ∧ P + n ≤ n * k := by
  refine ⟨n * T, by simp, ?_⟩
  have := Nat.mul_le_mul_left n (show T + 1 ≤ k by omega)
  rw [Nat.mul_succ] at this
  exact this
theorem ag_down (n k i T : Nat) (hi : i < n) (hT : T < k) (hk : n * k ≤ 60) : IntKind.i8.wrap (wrap64 ((i : Int) + wrap64 ((n : Int) * wrap64 (T : Int)))) = (i : Int) + (n : Int) * (T : Int) := by
  obtain ⟨P, hP, hb⟩ := ag_num n k i T hi hT hk
  have hTk : T ≤ 60 := by
    have := Nat.mul_le_mul_right k (show 1 ≤ n by omega)
    omega
  rw [w64 (x := (T : Int)) (by omega) (by omega), hP, w64 (x := (P : Int)) (by omega) (by omega), w64 (by omega) (by omega), wi8 (by omega) (by omega)]
theorem ag_down' (n k i T : Nat) (hi : i < n) (hT : T < k) (hk : n * k ≤ 60) : IntKind.i8.wrap (IntKind.i8.wrap (i : Int) + IntKind.i8.wrap ((n : Int) * (T : Int))) = (i : Int) + (n : Int) * (T : Int) := by
  obtain ⟨P, hP, hb⟩ := ag_num n k i T hi hT hk
  rw [hP, wi8 (x := (i : Int)) (by omega) (by omega), wi8 (x := (P : Int)) (by omega) (by omega), wi8 (by omega) (by omega)]
theorem ag_across (n k T : Nat) (hT : T < n) (hk : n * (k + 1) ≤ 60) : IntKind.i8.wrap (wrap64 (wrap64 (T : Int) + wrap64 ((n : Int) * (k : Int)))) = (T : Int) + (n : Int) * (k : Int) := by
  obtain ⟨P, hP, hb⟩ := ag_num n (k + 1) T k hT (by omega) hk
  rw [hP, w64 (x := (T : Int)) (by omega) (by omega), w64 (x := (P : Int)) (by omega) (by omega), w64 (by omega) (by omega), wi8 (by omega) (by omega)]
theorem ag_across' (n k T : Nat) (hT : T < n) (hk : n * (k + 1) ≤ 60) : IntKind.i8.wrap ((T : Int) + IntKind.i8.wrap ((n : Int) * IntKind.i8.wrap (k : Int))) = (T : Int) + (n : Int) * (k : Int) := by
  obtain ⟨P, hP, hb⟩ := ag_num n (k + 1) T k hT (by omega) hk
  have hkk : k ≤ 60 := by
    have := Nat.mul_le_mul_right (k + 1) (show 1 ≤ n by omega)
    omega
  rw [wi8 (x := (k : Int)) (by omega) (by omega), hP, wi8 (x := (P : Int)) (by omega) (by omega), wi8 (by omega) (by omega)]
theorem take_map_succ {β : Type} (f : Int → β) (l : List Int) (j : Nat) (h : j < l.length) : (l.take (j + 1)).map f = (l.take j).map f ++ [f l[j]] := by
  rw [List.take_succ_eq_append_getElem h, List.map_append]
  rfl
theorem getD_at {g : List (List Int)} {i : Nat} (h : i < g.length) : g.getD i [] = g[i] := by simp [List.getD_eq_getElem?_getD, List.getElem?_eq_getElem h]
set_option maxHeartbeats 1000000 in
theorem spec_ag_row (a b : List (List Int)) (ha : validG a = true) (hb : validG b = true) (hab : a.length * b.length ≤ 60) (k i : Nat) (hk : k < b.length) (hi : i < a.length) (Q : List (List Int)) (hQ : Q.length ≤ 60) (R : List (List Int) × Int)
    (hn : Ev (fun q => spec_AddGames.l1 q a b (a.length : Int) (Q ++ [agRow a.length b[k] a[i] k i]) (k : Int) ((i + 1 : Nat) : Int)) R) :
    Ev (fun q => spec_AddGames.l2 q a b (a.length : Int) Q (k : Int) (i : Int) [] 0) R := by
  have hbl := valid_row_len hb k hk
  have hal := valid_row_len ha i hi
  have hbx := valid_at hb k hk
  have hax := valid_at ha i hi
  have hlb := valid_len hb
  have hla := valid_len ha
  have hrb := rdL2_nat hk
  have hra := rdL2_nat hi
  have hkk : a.length * (k + 1) ≤ 60 := Nat.le_trans (Nat.mul_le_mul_left _ (show k + 1 ≤ b.length by omega)) hab
  generalize b[k] = down at *
  generalize a[i] = across at *
  have second : ∀ (d j : Nat), j + d = across.length → Ev (fun q => spec_AddGames.l3 q a b (a.length : Int) Q (k : Int) (i : Int) (down.map (fun t => (i : Int) + (a.length : Int) * t) ++ (across.take j).map (fun t => t + (a.length : Int) * (k : Int))) (j : Int)) R := by
    intro d
    induction d with
    | zero =>
      intro j hj
      obtain rfl : j = across.length := by omega
      refine Ev_round ?_
      simp only [spec_AddGames.l3]
      rw [hra, List.take_length, w64 (x := (i : Int) + 1) (by omega) (by omega)]
      exact Ev_pos (by omega) (Ev_pos (by omega) (Ev_neg (by omega) (Ev_pos (by omega) hn)))
    | succ d ih =>
      intro j hj
      have hjl : j < across.length := by omega
      have hx := hax _ (List.getElem_mem hjl)
      have nx := ih (j + 1) (by omega)
      rw [take_map_succ _ _ _ hjl, ← List.append_assoc] at nx
      refine Ev_round ?_
      simp only [spec_AddGames.l3]
      rw [hra, rd_nat hjl, w64 (x := (j : Int) + 1) (by omega) (by omega)]
      generalize across[j] = t at hx nx
      obtain ⟨T, rfl⟩ := Int.eq_ofNat_of_zero_le hx.1
      have hlen : (down.map (fun t => (i : Int) + (a.length : Int) * t) ++ (across.take j).map (fun t => t + (a.length : Int) * (k : Int))).length < 140737488355328 := by
        rw [List.length_append, List.length_map, List.length_map, List.length_take]; omega
      refine Ev_pos (by omega) (Ev_pos (by omega) (Ev_pos (by omega) (Ev_pos (by omega) (Ev_pos hlen ?_))))
      rw [ag_across a.length k T (by omega) hkk]
      exact nx
  have first : ∀ (d j : Nat), j + d = down.length → Ev (fun q => spec_AddGames.l2 q a b (a.length : Int) Q (k : Int) (i : Int) ((down.take j).map (fun t => (i : Int) + (a.length : Int) * t)) (j : Int)) R := by
    intro d
    induction d with
    | zero =>
      intro j hj
      obtain rfl : j = down.length := by omega
      refine Ev_round ?_
      simp only [spec_AddGames.l2]
      have s2 := second across.length 0 (by omega)
      rw [List.take_zero, List.map_nil, List.append_nil] at s2
      rw [hrb, List.take_length]
      exact Ev_pos (by omega) (Ev_pos (by omega) (Ev_neg (by omega) s2))
    | succ d ih =>
      intro j hj
      have hjl : j < down.length := by omega
      have hx := hbx _ (List.getElem_mem hjl)
      have nx := ih (j + 1) (by omega)
      rw [take_map_succ _ _ _ hjl] at nx
      refine Ev_round ?_
      simp only [spec_AddGames.l2]
      rw [hrb, rd_nat hjl, w64 (x := (j : Int) + 1) (by omega) (by omega)]
      generalize down[j] = t at hx nx
      obtain ⟨T, rfl⟩ := Int.eq_ofNat_of_zero_le hx.1
      have hlen : ((down.take j).map (fun t => (i : Int) + (a.length : Int) * t)).length < 140737488355328 := by
        rw [List.length_map, List.length_take]; omega
      refine Ev_pos (by omega) (Ev_pos (by omega) (Ev_pos (by omega) (Ev_pos (by omega) (Ev_pos hlen ?_))))
      rw [ag_down a.length k i T hi (by omega) (Nat.le_trans (Nat.mul_le_mul_left _ (by omega)) hkk)]
      exact nx
  have := first down.length 0 (by omega)
  rw [List.take_zero, List.map_nil] at this
  exact this
set_option maxHeartbeats 1000000 in
theorem spec_ag_loop (a b : List (List Int)) (ha : validG a = true) (hb : validG b = true) (hab : a.length * b.length ≤ 60) :
    ∀ (d k : Nat), k + d = b.length → Ev (fun q => spec_AddGames.l0 q a b (a.length : Int) (agDone a b k) (k : Int)) (agDone a b b.length, 0) := by
  have hlb := valid_len hb
  have hla := valid_len ha
  intro d
  induction d with
  | zero =>
    intro k h
    obtain rfl : k = b.length := by omega
    refine Ev_round ?_
    simp only [spec_AddGames.l0]
    exact Ev_neg (by omega) (Ev.now _)
  | succ d ih =>
    intro k h
    have hk : k < b.length := by omega
    have nx := ih (k + 1) (by omega)
    rw [agDone_succ, getD_at hk] at nx
    have hl1 := agDone_len a b k
    have hkk : a.length * (k + 1) ≤ 60 := Nat.le_trans (Nat.mul_le_mul_left _ (show k + 1 ≤ b.length by omega)) hab
    rw [Nat.mul_succ] at hkk
    have inner : ∀ (e i : Nat), i + e = a.length → Ev (fun q => spec_AddGames.l1 q a b (a.length : Int) (agDone a b k ++ agBlock a b[k] k i) (k : Int) (i : Int)) (agDone a b b.length, 0) := by
      intro e
      induction e with
      | zero =>
        intro i hi
        obtain rfl : i = a.length := by omega
        refine Ev_round ?_
        simp only [spec_AddGames.l1]
        refine Ev_neg (by omega) ?_
        rw [w64 (by omega) (by omega)]
        exact nx
      | succ e ihe =>
        intro i hi
        have hia : i < a.length := by omega
        have nx2 := ihe (i + 1) (by omega)
        rw [agBlock_succ, getD_at hia, ← List.append_assoc] at nx2
        refine Ev_round ?_
        simp only [spec_AddGames.l1]
        have hl2 := agBlock_len a b[k] k i
        exact Ev_pos (by omega) (spec_ag_row a b ha hb hab k i hk hia _ (by rw [List.length_append, hl1, hl2]; omega) _ nx2)
    have := inner a.length 0 (by omega)
    rw [show agBlock a b[k] k 0 = [] from rfl, List.append_nil] at this
    refine Ev_round ?_
    simp only [spec_AddGames.l0]
    exact Ev_pos (by omega) this
/-- What AddGames tells. -/
def agR (a b : List (List Int)) : List (List Int) × Int := if validG a = true ∧ validG b = true then (if a.length * b.length ≤ 60 then (agDone a b b.length, 0) else ([], 3)) else ([], 1)
theorem spec_ag_ev (a b : List (List Int)) (hla : a.length ≤ 1048576) (hra : ∀ mv ∈ a, mv.length ≤ 1048576 ∧ ∀ x ∈ mv, -128 ≤ x ∧ x ≤ 127) (hlb : b.length ≤ 1048576) (hrb : ∀ mv ∈ b, mv.length ≤ 1048576 ∧ ∀ x ∈ mv, -128 ≤ x ∧ x ≤ 127) :
    Ev (fun k => spec_AddGames.f k a b) (agR a b) := by
  have j0f : ∀ (r : List (List Int) × Int), r = ([], 1) → Ev (fun k => spec_AddGames.j0 k a b true) r := by
    intro r hr
    refine Ev_round ?_
    simp only [spec_AddGames.j0]
    exact Ev_pos (by simp) (Ev_as (Ev.now _) hr.symm)
  unfold agR
  by_cases ca : validG a = true
  · by_cases cb : validG b = true
    · rw [if_pos ⟨ca, cb⟩]
      refine Ev.bind (spec_ok_ev a hla hra) (Ev_pos ca (Ev.bind (spec_ok_ev b hlb hrb) ?_))
      rw [cb]
      refine Ev_round ?_
      simp only [spec_AddGames.j0]
      have h1 := valid_len ca
      have h2 := valid_len cb
      have h3 := Nat.mul_le_mul h1.2 h2.2
      have h4 : (a.length : Int) * (b.length : Int) = ((a.length * b.length : Nat) : Int) := by simp
      rw [h4, w64 (by omega) (by omega)]
      refine Ev_neg (by simp) ?_
      by_cases c : a.length * b.length ≤ 60
      · rw [if_pos c]
        exact Ev_neg (by omega) (spec_ag_loop a b ca cb c b.length 0 (by omega))
      · rw [if_neg c]
        exact Ev_pos (by omega) (Ev.now _)
    · rw [if_neg (fun h => cb h.2)]
      refine Ev.bind (spec_ok_ev a hla hra) (Ev_pos ca (Ev.bind (spec_ok_ev b hlb hrb) ?_))
      rw [Bool.eq_false_iff.mpr cb]
      exact j0f _ rfl
  · rw [if_neg (fun h => ca h.1)]
    exact Ev.bind (spec_ok_ev a hla hra) (Ev_neg ca (j0f _ rfl))
theorem agRow_len (n : Nat) (down across : List Int) (k i : Nat) : (agRow n down across k i).length = down.length + across.length := by simp [agRow]

theorem toInt8S_ev (xs : List Int) (hn : xs.length ≤ 1048576) : Ev (fun k => laws_toInt8S.f k xs) xs :=
  copy_any (L := laws_toInt8S.l0) 281474976710656 (fun _ _ _ _ => rfl) xs (by omega) (by omega)

theorem toGame_ev (g : List (List Int)) (hg : g.length ≤ 1048576) (hr : ∀ mv ∈ g, mv.length ≤ 1048576) : Ev (fun k => laws_toGame.f k g) g := by
  have main : ∀ (d n : Nat) (ys : List (List Int)), n + d = g.length → ys.length = g.length → ys.take n = g.take n → Ev (fun k => laws_toGame.l0 k g ys (n : Int)) g := by
    intro d
    induction d with
    | zero =>
      intro n ys h1 h2 h3
      refine Ev_round ?_
      simp only [laws_toGame.l0]
      refine Ev_neg (by omega) (Ev_as (Ev.now _) ?_)
      rw [List.take_of_length_le (by omega), List.take_of_length_le (by omega)] at h3
      exact h3
    | succ d ih =>
      intro n ys h1 h2 h3
      have hn : n < g.length := by omega
      refine Ev_round ?_
      simp only [laws_toGame.l0]
      refine Ev_pos (by omega) (Ev_pos (by omega) ?_)
      rw [rdL2_nat hn]
      refine Ev.bind (toInt8S_ev _ (hr _ (List.getElem_mem hn))) (Ev_pos (by omega) ?_)
      rw [w64 (by omega) (by omega), Int.toNat_natCast]
      refine ih (n + 1) (ys.set n g[n]) (by omega) (by simpa using h2) ?_
      rw [List.take_succ_eq_append_getElem (by simp; omega), List.take_succ_eq_append_getElem hn, List.take_set_of_le (by omega), h3]
      simp
  refine Ev_pos (by omega) (Ev_pos (by omega) (main g.length 0 _ (by omega) (by simp) (by simp)))

theorem impl_valid_ev (g : List (List Int)) (hl : g.length ≤ 1048576) (hr : ∀ mv ∈ g, mv.length ≤ 1048576 ∧ ∀ x ∈ mv, -128 ≤ x ∧ x ≤ 127) : Ev (fun k => impl_ValidGame.f k g) (validG g) := by
  -- the moves of one place, from one of them on
  have inner : ∀ (n : Nat) (hn : n < g.length) (r : Bool), Ev (fun k => impl_ValidGame.l0 k g g g.length ((n + 1 : Nat) : Int)) r →
      ∀ (d j : Nat) (p : Int), j + d = g[n].length → (j = 0 → p = -1) → (∀ h : 0 < j, ∀ h' : j - 1 < g[n].length, p = g[n][j - 1]) → -1 ≤ p →
        Ev (fun k => impl_ValidGame.l1 k g (n : Int) g[n] g g.length (n : Int) g[n] g[n].length (j : Int)) (okFrom n p (g[n].drop j) && r) := by
    intro n hn r hnext d
    have hmv := hr _ (List.getElem_mem hn)
    induction d with
    | zero =>
      intro j p h _ _ _
      obtain rfl : j = g[n].length := by omega
      refine Ev_round ?_
      simp only [impl_ValidGame.l1]
      refine Ev_neg (by omega) ?_
      rw [w64 (by omega) (by omega), List.drop_length]
      exact Ev_as hnext (by simp [okFrom])
    | succ d ih =>
      intro j p h h0 h1 hp
      have hj : j < g[n].length := by omega
      have hx := hmv.2 _ (List.getElem_mem hj)
      refine Ev_round ?_
      simp only [impl_ValidGame.l1]
      refine Ev_pos (by omega) (Ev_pos (by omega) (Ev_pos (by omega) ?_))
      rw [List.drop_eq_getElem_cons hj, rd_nat hj, w64 (by omega) (by omega), w64 (x := (n : Int) - 1) (by omega) (by omega)]
      unfold impl_within.f
      by_cases c0 : 0 ≤ g[n][j]
      · by_cases c1 : g[n][j] ≤ (n : Int) - 1
        · refine Ev_bind1 (if_pos c0) (Ev_pos (by simpa using c1) ?_)
          have e0 : wrap64 ((j : Int) + 1) = ((j + 1 : Nat) : Int) := by rw [w64 (by omega) (by omega)]; omega
          rw [e0]
          by_cases cj : (j : Int) > 0
          · have e1 : wrap64 ((j : Int) - 1) = ((j - 1 : Nat) : Int) := by rw [w64 (by omega) (by omega)]; omega
            rw [e1]
            refine Ev_pos cj (Ev_pos (by omega) (Ev_pos (by omega) ?_))
            rw [rd_nat (show j - 1 < g[n].length by omega)]
            have hpp := h1 (by omega) (by omega)
            by_cases c2 : g[n][j] ≤ g[n][j - 1]'(by omega)
            · refine Ev_pos c2 (Ev_as (Ev.now _) ?_)
              have : ¬ (p < g[n][j] ∧ 0 ≤ g[n][j] ∧ g[n][j] ≤ (n : Int) - 1) := by omega
              simp [okFrom, this]
            · refine Ev_neg c2 (Ev_as (ih (j + 1) g[n][j] (by omega) (by omega) (fun _ _ => by simp) (by omega)) ?_)
              have : p < g[n][j] ∧ 0 ≤ g[n][j] ∧ g[n][j] ≤ (n : Int) - 1 := by omega
              simp [okFrom, this]
          · refine Ev_neg cj (Ev_as (ih (j + 1) g[n][j] (by omega) (by omega) (fun _ _ => by simp) (by omega)) ?_)
            have hp0 := h0 (by omega)
            have : p < g[n][j] ∧ 0 ≤ g[n][j] ∧ g[n][j] ≤ (n : Int) - 1 := by omega
            simp [okFrom, this]
        · refine Ev_bind1 (if_pos c0) (Ev_neg (by simpa using c1) (Ev_as (Ev.now _) ?_))
          have : ¬ (p < g[n][j] ∧ 0 ≤ g[n][j] ∧ g[n][j] ≤ (n : Int) - 1) := by omega
          simp [okFrom, this]
      · refine Ev_bind1 (if_neg c0) (Ev_neg (by simp) (Ev_as (Ev.now _) ?_))
        have : ¬ (p < g[n][j] ∧ 0 ≤ g[n][j] ∧ g[n][j] ≤ (n : Int) - 1) := by omega
        simp [okFrom, this]
  have outer : ∀ (d n : Nat), n + d = g.length → Ev (fun k => impl_ValidGame.l0 k g g g.length (n : Int)) (okRows n (g.drop n) && decide (1 ≤ g.length ∧ g.length ≤ 60)) := by
    intro d
    induction d with
    | zero =>
      intro n h
      obtain rfl : n = g.length := by omega
      refine Ev_round ?_
      simp only [impl_ValidGame.l0]
      refine Ev_neg (by omega) ?_
      unfold impl_within.f
      rw [List.drop_length]
      by_cases c0 : 1 ≤ (g.length : Int)
      · refine Ev_bind1 (if_pos c0) (Ev_as (Ev.now _) ?_)
        simp only [okRows, Bool.true_and]
        apply decide_eq_decide.2
        omega
      · refine Ev_bind1 (if_neg c0) (Ev_as (Ev.now _) ?_)
        simp [okRows]
        omega
    | succ d ih =>
      intro n h
      have hn : n < g.length := by omega
      refine Ev_round ?_
      simp only [impl_ValidGame.l0]
      refine Ev_pos (by omega) (Ev_pos (by omega) (Ev_pos (by omega) ?_))
      rw [rdL2_nat hn, List.drop_eq_getElem_cons hn]
      refine Ev_as (inner n hn _ (ih (n + 1) (by omega)) g[n].length 0 (-1) (by omega) (fun _ => rfl) (fun h _ => by omega) (by omega)) ?_
      simp [okRows, Bool.and_assoc]
  exact Ev_as (outer g.length 0 (by omega)) (by simp [validG])

theorem less8 (x y : Int) : cmp_Less_int8.f x y = some (decide (x < y)) := by
  unfold cmp_Less_int8.f cmp_isNaN_int8.f
  simp
theorem rise_at {l : List Int} (hp : l.Pairwise (· ≤ ·)) (i : Nat) (h : i + 1 < l.length) : rd l (i : Int) ≤ rd l ((i + 1 : Nat) : Int) := by
  rw [rd_nat (by omega), rd_nat h]
  exact List.pairwise_iff_getElem.1 hp i (i + 1) (by omega) h (by omega)
theorem insertion_ev (l : List Int) (hp : l.Pairwise (· ≤ ·)) (hl : l.length ≤ 1000) : Ev (fun k => slices_insertionSortOrdered_int8.f k l 0 (l.length : Int)) l := by
  have main : ∀ (d n : Nat), n + 1 + d = max l.length 1 → Ev (fun k => slices_insertionSortOrdered_int8.l0 k l 0 (l.length : Int) ((n + 1 : Nat) : Int)) l := by
    intro d
    induction d with
    | zero =>
      intro n h
      refine Ev_round ?_
      simp only [slices_insertionSortOrdered_int8.l0]
      exact Ev_neg (by omega) (Ev.now _)
    | succ d ih =>
      intro n h
      have hn : n + 1 < l.length := by omega
      have hr := rise_at hp n hn
      refine Ev_round ?_
      simp only [slices_insertionSortOrdered_int8.l0]
      refine Ev_pos (by omega) (Ev_round ?_)
      simp only [slices_insertionSortOrdered_int8.l1]
      rw [w64 (x := ((n + 1 : Nat) : Int) - 1) (by omega) (by omega), w64 (x := ((n + 1 : Nat) : Int) + 1) (by omega) (by omega), show ((n + 1 : Nat) : Int) - 1 = (n : Int) by omega, show ((n + 1 : Nat) : Int) + 1 = ((n + 1 + 1 : Nat) : Int) by omega]
      refine Ev_pos (by omega) (Ev_pos (by omega) (Ev_pos (by omega) (Ev_pos (by omega) (Ev_pos (by omega) (Ev_bind1 (less8 _ _) (Ev_neg (by simpa using hr) ?_))))))
      exact ih (n + 1) (by omega)
  have := main (max l.length 1 - 1) 0 (by omega)
  unfold slices_insertionSortOrdered_int8.f
  rw [w64 (x := (0 : Int) + 1) (by omega) (by omega)]
  exact this
theorem partial_ev (l : List Int) (hp : l.Pairwise (· ≤ ·)) (h1 : 1 ≤ l.length) (hl : l.length ≤ 1000) : Ev (fun k => slices_partialInsertionSortOrdered_int8.f k l 0 (l.length : Int)) (true, l) := by
  have main : ∀ (d n : Nat), n + 1 + d = l.length → Ev (fun k => slices_partialInsertionSortOrdered_int8.l1 k l 0 (l.length : Int) ((n + 1 : Nat) : Int) 0) (true, l) := by
    intro d
    induction d with
    | zero =>
      intro n h
      refine Ev_round ?_
      simp only [slices_partialInsertionSortOrdered_int8.l1]
      refine Ev_neg (by omega) (Ev_round ?_)
      simp only [slices_partialInsertionSortOrdered_int8.j2]
      exact Ev_pos (by omega) (Ev.now _)
    | succ d ih =>
      intro n h
      have hn : n + 1 < l.length := by omega
      have hr := rise_at hp n hn
      refine Ev_round ?_
      simp only [slices_partialInsertionSortOrdered_int8.l1]
      rw [w64 (x := ((n + 1 : Nat) : Int) - 1) (by omega) (by omega), w64 (x := ((n + 1 : Nat) : Int) + 1) (by omega) (by omega), show ((n + 1 : Nat) : Int) - 1 = (n : Int) by omega, show ((n + 1 : Nat) : Int) + 1 = ((n + 1 + 1 : Nat) : Int) by omega]
      refine Ev_pos (by omega) (Ev_pos (by omega) (Ev_pos (by omega) (Ev_pos (by omega) (Ev_pos (by omega) (Ev_bind1 (less8 _ _) (Ev_neg (by simpa using hr) ?_))))))
      exact ih (n + 1) (by omega)
  unfold slices_partialInsertionSortOrdered_int8.f
  rw [w64 (x := (0 : Int) + 1) (by omega) (by omega)]
  refine Ev_round ?_
  simp only [slices_partialInsertionSortOrdered_int8.l0]
  exact Ev_pos (by omega) (main (l.length - 1) 0 (by omega))
theorem pdq_ev (l : List Int) (hp : l.Pairwise (· ≤ ·)) (hl : l.length ≤ 1000) (L : Int) (hL : 12 < l.length → L ≠ 0) : Ev (fun k => slices_pdqsortOrdered_int8.f k l 0 (l.length : Int) L) l := by
  refine Ev_round ?_
  simp only [slices_pdqsortOrdered_int8.f]
  refine Ev_round ?_
  simp only [slices_pdqsortOrdered_int8.l0]
  rw [w64 (x := (l.length : Int) - 0) (by omega) (by omega)]
  by_cases c : l.length ≤ 12
  · exact Ev_pos (by omega) (Ev.bind (insertion_ev l hp hl) (Ev.now _))
  refine Ev_neg (by omega) (Ev_neg (hL (by omega)) (Ev_pos (by simp) (Ev_round ?_)))
  simp only [slices_pdqsortOrdered_int8.j1]
  refine Ev_bind1 (a := ((l.length : Int) / 4 * 2, 1)) ?_ (Ev_neg (by simp) (Ev_round ?_))
  · unfold slices_choosePivotOrdered_int8.f
    rw [if_pos hp, if_pos rfl, if_pos rfl, if_pos (by omega), if_pos hl]
  simp only [slices_pdqsortOrdered_int8.j2]
  refine Ev_pos (by simp) (Ev_pos (by simp) (Ev_round ?_))
  simp only [slices_pdqsortOrdered_int8.j3]
  exact Ev_pos (by simp) (Ev.bind (partial_ev l hp (by omega) hl) (Ev_pos (by simp) (Ev.now _)))
theorem len_ev (n : Nat) (hn : n < 256) : ∃ L, Ev (fun k => bits_Len.f k (IntKind.u64.wrap (n : Int))) L ∧ (12 < n → L ≠ 0) := by
  rw [wu64 (by omega) (by omega)]
  apply Exists.intro
  constructor
  · unfold bits_Len.f
    apply Ev.bind
    · unfold bits_Len64.f
      apply Ev_neg (by omega)
      apply Ev_round
      apply Ev.congr (fun k => bits_Len64.j0.eq_2 (n : Int) 0 k)
      apply Ev_neg (by omega)
      apply Ev_neg (by omega)
      apply Ev_pos (by omega)
      apply Ev_pos (by omega)
      exact Ev.now _
    · exact Ev.now _
  · rw [show (n : Int) % 256 = (n : Int) by omega]
    revert n
    decide +kernel
theorem sort8_ev (l : List Int) (hp : l.Pairwise (· ≤ ·)) (hl : l.length < 256) : Ev (fun k => slices_Sort_int8_int8.f k l) l := by
  obtain ⟨L, h1, h2⟩ := len_ev l.length hl
  exact Ev.bind h1 (Ev.bind (pdq_ev l hp (by omega) L h2) (Ev.now _))

theorem agRow_rise (n k i : Nat) (hi : i < n) (down across : List Int) (hd : down.Pairwise (· < ·)) (ha : across.Pairwise (· < ·)) (hdx : ∀ x ∈ down, 0 ≤ x ∧ x ≤ (k : Int) - 1) (hax : ∀ x ∈ across, 0 ≤ x ∧ x ≤ (i : Int) - 1) : (agRow n down across k i).Pairwise (· ≤ ·) := by
  unfold agRow
  rw [List.pairwise_append]
  refine ⟨?_, ?_, ?_⟩
  · rw [List.pairwise_map]
    refine hd.imp ?_
    intro x y h
    have := Int.mul_le_mul_of_nonneg_left (show x ≤ y by omega) (show (0 : Int) ≤ (n : Int) by omega)
    omega
  · rw [List.pairwise_map]
    refine ha.imp ?_
    intro x y h
    omega
  · intro x hx y hy
    obtain ⟨t, ht, rfl⟩ := List.mem_map.1 hx
    obtain ⟨u, hu, rfl⟩ := List.mem_map.1 hy
    have h1 := hdx t ht
    have h2 := hax u hu
    have := Int.mul_le_mul_of_nonneg_left (show t + 1 ≤ (k : Int) by omega) (show (0 : Int) ≤ (n : Int) by omega)
    rw [Int.mul_add, Int.mul_one] at this
    omega
set_option maxHeartbeats 1000000 in
theorem impl_ag_row (a b : List (List Int)) (ha : validG a = true) (hb : validG b = true) (hab : a.length * b.length ≤ 60) (k i : Nat) (hk : k < b.length) (hi : i < a.length) (Q : List (List Int)) (hQ : Q.length ≤ 60) (R : List (List Int) × Int)
    (hn : Ev (fun q => impl_AddGames.l1 q a (Q ++ [agRow a.length b[k] a[i] k i]) (a.length : Int) (k : Int) b[k] b (b.length : Int) (k : Int) a (a.length : Int) ((i + 1 : Nat) : Int)) R) :
    Ev (fun q => impl_AddGames.l2 q a Q (a.length : Int) (k : Int) b[k] (i : Int) a[i] [] b (b.length : Int) (k : Int) a (a.length : Int) (i : Int) b[k] (b[k].length : Int) 0) R := by
  have hbl := valid_row_len hb k hk
  have hal := valid_row_len ha i hi
  have hbx := valid_at hb k hk
  have hax := valid_at ha i hi
  have hlb := valid_len hb
  have hla := valid_len ha
  have hrise := agRow_rise a.length k i hi b[k] a[i] (valid_rise hb k hk) (valid_rise ha i hi) hbx hax
  have hrl := agRow_len a.length b[k] a[i] k i
  have hkk : a.length * (k + 1) ≤ 60 := Nat.le_trans (Nat.mul_le_mul_left _ (show k + 1 ≤ b.length by omega)) hab
  generalize b[k] = down at *
  generalize a[i] = across at *
  have second : ∀ (d j : Nat), j + d = across.length → Ev (fun q => impl_AddGames.l3 q a Q (a.length : Int) (k : Int) down (down.map (fun t => (i : Int) + (a.length : Int) * t) ++ (across.take j).map (fun t => t + (a.length : Int) * (k : Int))) b (b.length : Int) (k : Int) a (a.length : Int) (i : Int) across (across.length : Int) (j : Int)) R := by
    intro d
    induction d with
    | zero =>
      intro j hj
      obtain rfl : j = across.length := by omega
      refine Ev_round ?_
      simp only [impl_AddGames.l3]
      rw [List.take_length, w64 (x := (i : Int) + 1) (by omega) (by omega)]
      exact Ev_neg (by omega) (Ev.bind (sort8_ev _ hrise (by rw [List.length_append, List.length_map, List.length_map]; omega)) (Ev_pos (by omega) hn))
    | succ d ih =>
      intro j hj
      have hjl : j < across.length := by omega
      have hx := hax _ (List.getElem_mem hjl)
      have nx := ih (j + 1) (by omega)
      rw [take_map_succ _ _ _ hjl, ← List.append_assoc] at nx
      refine Ev_round ?_
      simp only [impl_AddGames.l3]
      rw [rd_nat hjl, w64 (x := (j : Int) + 1) (by omega) (by omega)]
      generalize across[j] = t at hx nx
      obtain ⟨T, rfl⟩ := Int.eq_ofNat_of_zero_le hx.1
      have hlen : (down.map (fun t => (i : Int) + (a.length : Int) * t) ++ (across.take j).map (fun t => t + (a.length : Int) * (k : Int))).length < 140737488355328 := by
        rw [List.length_append, List.length_map, List.length_map, List.length_take]; omega
      refine Ev_pos (by omega) (Ev_pos (by omega) (Ev_pos (by omega) (Ev_pos hlen ?_)))
      rw [ag_across' a.length k T (by omega) hkk]
      exact nx
  have first : ∀ (d j : Nat), j + d = down.length → Ev (fun q => impl_AddGames.l2 q a Q (a.length : Int) (k : Int) down (i : Int) across ((down.take j).map (fun t => (i : Int) + (a.length : Int) * t)) b (b.length : Int) (k : Int) a (a.length : Int) (i : Int) down (down.length : Int) (j : Int)) R := by
    intro d
    induction d with
    | zero =>
      intro j hj
      obtain rfl : j = down.length := by omega
      refine Ev_round ?_
      simp only [impl_AddGames.l2]
      have s2 := second across.length 0 (by omega)
      rw [List.take_zero, List.map_nil, List.append_nil] at s2
      rw [List.take_length]
      exact Ev_neg (by omega) s2
    | succ d ih =>
      intro j hj
      have hjl : j < down.length := by omega
      have hx := hbx _ (List.getElem_mem hjl)
      have nx := ih (j + 1) (by omega)
      rw [take_map_succ _ _ _ hjl] at nx
      refine Ev_round ?_
      simp only [impl_AddGames.l2]
      rw [rd_nat hjl, w64 (x := (j : Int) + 1) (by omega) (by omega)]
      generalize down[j] = t at hx nx
      obtain ⟨T, rfl⟩ := Int.eq_ofNat_of_zero_le hx.1
      have hlen : ((down.take j).map (fun t => (i : Int) + (a.length : Int) * t)).length < 140737488355328 := by
        rw [List.length_map, List.length_take]; omega
      refine Ev_pos (by omega) (Ev_pos (by omega) (Ev_pos (by omega) (Ev_pos hlen ?_)))
      rw [ag_down' a.length k i T hi (by omega) (Nat.le_trans (Nat.mul_le_mul_left _ (by omega)) hkk)]
      exact nx
  have := first down.length 0 (by omega)
  rw [List.take_zero, List.map_nil] at this
  exact this
set_option maxHeartbeats 1000000 in
theorem impl_ag_loop (a b : List (List Int)) (ha : validG a = true) (hb : validG b = true) (hab : a.length * b.length ≤ 60) :
    ∀ (d k : Nat), k + d = b.length → Ev (fun q => impl_AddGames.l0 q a (agDone a b k) (a.length : Int) b (b.length : Int) (k : Int)) (agDone a b b.length, 0) := by
  have hlb := valid_len hb
  have hla := valid_len ha
  intro d
  induction d with
  | zero =>
    intro k h
    obtain rfl : k = b.length := by omega
    refine Ev_round ?_
    simp only [impl_AddGames.l0]
    exact Ev_neg (by omega) (Ev.now _)
  | succ d ih =>
    intro k h
    have hk : k < b.length := by omega
    have nx := ih (k + 1) (by omega)
    rw [agDone_succ, getD_at hk] at nx
    have hl1 := agDone_len a b k
    have hkk : a.length * (k + 1) ≤ 60 := Nat.le_trans (Nat.mul_le_mul_left _ (show k + 1 ≤ b.length by omega)) hab
    rw [Nat.mul_succ] at hkk
    have inner : ∀ (e i : Nat), i + e = a.length → Ev (fun q => impl_AddGames.l1 q a (agDone a b k ++ agBlock a b[k] k i) (a.length : Int) (k : Int) b[k] b (b.length : Int) (k : Int) a (a.length : Int) (i : Int)) (agDone a b b.length, 0) := by
      intro e
      induction e with
      | zero =>
        intro i hi
        obtain rfl : i = a.length := by omega
        refine Ev_round ?_
        simp only [impl_AddGames.l1]
        refine Ev_neg (by omega) ?_
        rw [w64 (by omega) (by omega)]
        exact nx
      | succ e ihe =>
        intro i hi
        have hia : i < a.length := by omega
        have nx2 := ihe (i + 1) (by omega)
        rw [agBlock_succ, getD_at hia, ← List.append_assoc] at nx2
        refine Ev_round ?_
        simp only [impl_AddGames.l1]
        have hl2 := agBlock_len a b[k] k i
        rw [rdL2_nat hia]
        exact Ev_pos (by omega) (Ev_pos (by omega) (Ev_pos (by omega) (impl_ag_row a b ha hb hab k i hk hia _ (by rw [List.length_append, hl1, hl2]; omega) _ nx2)))
    have := inner a.length 0 (by omega)
    rw [show agBlock a b[k] k 0 = [] from rfl, List.append_nil] at this
    refine Ev_round ?_
    simp only [impl_AddGames.l0]
    rw [rdL2_nat hk]
    exact Ev_pos (by omega) (Ev_pos (by omega) (Ev_pos (by omega) this))
theorem impl_ag_ev (a b : List (List Int)) (hla : a.length ≤ 1048576) (hra : ∀ mv ∈ a, mv.length ≤ 1048576 ∧ ∀ x ∈ mv, -128 ≤ x ∧ x ≤ 127) (hlb : b.length ≤ 1048576) (hrb : ∀ mv ∈ b, mv.length ≤ 1048576 ∧ ∀ x ∈ mv, -128 ≤ x ∧ x ≤ 127) :
    Ev (fun k => impl_AddGames.f k a b) (agR a b) := by
  have j0f : ∀ (r : List (List Int) × Int), r = ([], 1) → Ev (fun k => impl_AddGames.j0 k a b true) r := by
    intro r hr
    refine Ev_round ?_
    simp only [impl_AddGames.j0]
    exact Ev_pos (by simp) (Ev_as (Ev.now _) hr.symm)
  unfold agR
  by_cases ca : validG a = true
  · by_cases cb : validG b = true
    · rw [if_pos ⟨ca, cb⟩]
      refine Ev.bind (impl_valid_ev a hla hra) (Ev_pos ca (Ev.bind (impl_valid_ev b hlb hrb) ?_))
      rw [cb]
      refine Ev_round ?_
      simp only [impl_AddGames.j0]
      have h1 := valid_len ca
      have h2 := valid_len cb
      have h3 := Nat.mul_le_mul h1.2 h2.2
      have h4 : (a.length : Int) * (b.length : Int) = ((a.length * b.length : Nat) : Int) := by simp
      rw [h4, w64 (by omega) (by omega), wi8 (by omega) (by omega)]
      refine Ev_neg (by simp) ?_
      by_cases c : a.length * b.length ≤ 60
      · rw [if_pos c]
        exact Ev_neg (by omega) (impl_ag_loop a b ca cb c b.length 0 (by omega))
      · rw [if_neg c]
        exact Ev_pos (by omega) (Ev.now _)
    · rw [if_neg (fun h => cb h.2)]
      refine Ev.bind (impl_valid_ev a hla hra) (Ev_pos ca (Ev.bind (impl_valid_ev b hlb hrb) ?_))
      rw [Bool.eq_false_iff.mpr cb]
      exact j0f _ rfl
  · rw [if_neg (fun h => ca h.1)]
    exact Ev.bind (impl_valid_ev a hla hra) (Ev_neg ca (j0f _ rfl))

theorem eqInt8S_ev (xs ys : List Int) (hn : xs.length ≤ 140737488355328) : Ev (fun k => laws_eqInt8S.f k xs ys) (decide (xs = ys)) :=
  eq_all (L := laws_eqInt8S.l0) (fun _ _ _ _ => rfl) xs ys (by omega)

theorem eqGame_ev (g h : List (List Int)) (hg : g.length ≤ 1048576) (hr : ∀ mv ∈ g, mv.length ≤ 1048576) : Ev (fun k => laws_eqGame.f k g h) (decide (g = h)) := by
  by_cases hl : g.length = h.length
  · have main : ∀ (d n : Nat), n + d = g.length → g.take n = h.take n → Ev (fun k => laws_eqGame.l0 k g h (n : Int)) (decide (g = h)) := by
      intro d
      induction d with
      | zero =>
        intro n h1 h3
        refine Ev_round ?_
        simp only [laws_eqGame.l0]
        refine Ev_neg (by omega) (Ev_as (Ev.now _) ?_)
        rw [List.take_of_length_le (by omega), List.take_of_length_le (by omega)] at h3
        simp [h3]
      | succ d ih =>
        intro n h1 h3
        have hn : n < g.length := by omega
        have hm : n < h.length := by omega
        refine Ev_round ?_
        simp only [laws_eqGame.l0]
        refine Ev_pos (by omega) (Ev_pos (by omega) (Ev_pos (by omega) ?_))
        rw [rdL2_nat hn, rdL2_nat hm, w64 (by omega) (by omega)]
        refine Ev.bind (eqInt8S_ev _ _ (by have := hr _ (List.getElem_mem hn); omega)) ?_
        by_cases e : g[n] = h[n]
        · refine Ev_pos (by simp [e]) (ih (n + 1) (by omega) ?_)
          rw [List.take_succ_eq_append_getElem hn, List.take_succ_eq_append_getElem hm, h3, e]
        · refine Ev_neg (by simp [e]) (Ev_as (Ev.now _) ?_)
          have : g ≠ h := fun x => e (by subst x; rfl)
          simp [this]
    exact Ev_pos (by omega) (main g.length 0 (by omega) (by simp))
  · refine Ev_neg (by omega) (Ev_as (Ev.now _) ?_)
    have : g ≠ h := fun e => hl (by rw [e])
    simp [this]

theorem markInt8S_ev (xs : List Int) (a : Int) (ha : 0 ≤ a) (hb : a + (xs.length : Int) ≤ 9223372036854775806) : Ev (fun k => laws_markInt8S.f k xs a) (a + (xs.length : Int), markG .i8 a xs.length) := by
  have h := mark_loop (L := laws_markInt8S.l0) (K := .i8) (fun _ _ _ _ => rfl) a xs.length ha hb xs.length 0 xs (by omega) rfl (by simp)
  have e : a + ((0 : Nat) : Int) = a := by omega
  rw [e] at h
  exact h

theorem heldInt8S_ev (a : Int) (N : Nat) (ha : 0 ≤ a) (hb : a + (N : Int) ≤ 9223372036854775806) : Ev (fun k => laws_heldInt8S.f k (markG .i8 a N) a) (a + (N : Int)) := by
  have h := held_loop (L := laws_heldInt8S.l0) (K := .i8) (fun _ _ _ _ => rfl) a N ha hb N 0 (by omega)
  have e : a + ((0 : Nat) : Int) = a := by omega
  rw [e] at h
  exact h
/-- How many numbers a game has; what it holds when it was marked from a on. -/
def tot : List (List Int) → Int
  | [] => 0
  | x :: t => (x.length : Int) + tot t
def mgRows : Int → List (List Int) → List (List Int)
  | _, [] => []
  | a, x :: t => markG .i8 a x.length :: mgRows (a + (x.length : Int)) t
theorem tot_pos : ∀ g : List (List Int), 0 ≤ tot g := by
  intro g
  induction g with
  | nil => simp [tot]
  | cons x t ih => unfold tot; omega

theorem heldGame_go : ∀ (t pre : List (List Int)) (a : Int), 0 ≤ a → a + tot t ≤ 9223372036854775806 → (pre.length : Int) + (t.length : Int) ≤ 9223372036854775806 → Ev (fun k => laws_heldGame.l0 k (pre ++ mgRows a t) a (pre.length : Int)) (a + tot t) := by
  intro t
  induction t with
  | nil =>
    intro pre a ha hb hl
    refine Ev_round ?_
    simp only [laws_heldGame.l0]
    exact Ev_neg (by simp [mgRows]) (Ev_as (Ev.now _) (by simp [tot]))
  | cons x t ih =>
    intro pre a ha hb hl
    have h0 := tot_pos t
    unfold tot at hb
    rw [List.length_cons] at hl
    have hlt : pre.length < (pre ++ mgRows a (x :: t)).length := by simp [mgRows]
    refine Ev_round ?_
    simp only [laws_heldGame.l0]
    refine Ev_pos (by omega) (Ev_pos (by omega) ?_)
    rw [rdL2_nat hlt]
    have e : (pre ++ mgRows a (x :: t))[pre.length] = markG .i8 a x.length := by simp [mgRows]
    rw [e]
    refine Ev.bind (heldInt8S_ev a x.length ha (by omega)) (Ev_neg (by omega) ?_)
    rw [w64 (by omega) (by omega)]
    have h := ih (pre ++ [markG .i8 a x.length]) (a + (x.length : Int)) (by omega) (by omega) (by rw [List.length_append, List.length_singleton]; omega)
    rw [List.append_assoc, List.length_append, List.length_singleton] at h
    have e2 : a + tot (x :: t) = a + (x.length : Int) + tot t := by show a + ((x.length : Int) + tot t) = _; omega
    have e3 : ((pre.length : Int) + 1) = ((pre.length + 1 : Nat) : Int) := by omega
    rw [e2, e3]
    exact h
theorem heldGame_ev (g : List (List Int)) (a : Int) (ha : 0 ≤ a) (hb : a + tot g ≤ 9223372036854775806) (hl : (g.length : Int) ≤ 9223372036854775806) : Ev (fun k => laws_heldGame.f k (mgRows a g) a) (a + tot g) :=
  heldGame_go g [] a ha hb (by simpa using hl)

theorem markRows_ev : ∀ (g : List (List Int)) (a : Int), 0 ≤ a → a + tot g ≤ 9223372036854775806 → Ev (fun k => laws_markGame.f k g a) (a + tot g, mgRows a g) := by
  intro g
  unfold laws_markGame.f
  induction g with
  | nil => intro a _ _; exact Ev_as (Ev.now _) (by simp [tot, mgRows])
  | cons x t ih =>
    intro a ha hb
    have h0 := tot_pos t
    unfold tot at hb
    refine Ev.bind (markInt8S_ev x a ha (by omega)) (Ev.bind (ih (a + (x.length : Int)) (by omega) (by omega)) (Ev_as (Ev.now _) ?_))
    have e2 : a + tot (x :: t) = a + (x.length : Int) + tot t := by show a + ((x.length : Int) + tot t) = _; omega
    rw [e2]
    rfl

theorem tot_le (c : Nat) : ∀ g : List (List Int), (∀ x ∈ g, x.length ≤ c) → tot g ≤ (c : Int) * (g.length : Int) := by
  intro g
  induction g with
  | nil => intro _; simp [tot]
  | cons x t ih =>
    intro h
    have h1 := h x (by simp)
    have h2 := ih (fun y hy => h y (by simp [hy]))
    unfold tot
    rw [List.length_cons, Int.natCast_add, Int.mul_add]
    omega
theorem agBlock_rows (a : List (List Int)) (down : List Int) (k c : Nat) (hd : down.length ≤ c) (ha : ∀ x ∈ a, x.length ≤ c) : ∀ i, ∀ x ∈ agBlock a down k i, x.length ≤ c + c := by
  intro i
  induction i with
  | zero => intro x hx; cases hx
  | succ i ih =>
    intro x hx
    rw [agBlock_succ] at hx
    rcases List.mem_append.1 hx with hx | hx
    · exact ih x hx
    · rw [List.mem_singleton.1 hx, agRow_len]
      have : (a.getD i []).length ≤ c := by
        rw [List.getD_eq_getElem?_getD]
        by_cases h : i < a.length
        · rw [List.getElem?_eq_getElem h]
          exact ha _ (List.getElem_mem h)
        · rw [List.getElem?_eq_none (by omega)]
          simp
      omega
theorem agDone_rows (a b : List (List Int)) (c : Nat) (hb : ∀ x ∈ b, x.length ≤ c) (ha : ∀ x ∈ a, x.length ≤ c) : ∀ k, ∀ x ∈ agDone a b k, x.length ≤ c + c := by
  intro k
  induction k with
  | zero => intro x hx; cases hx
  | succ k ih =>
    intro x hx
    rw [agDone_succ] at hx
    rcases List.mem_append.1 hx with hx | hx
    · exact ih x hx
    · refine agBlock_rows a _ k c ?_ ha _ x hx
      rw [List.getD_eq_getElem?_getD]
      by_cases h : k < b.length
      · rw [List.getElem?_eq_getElem h]
        exact hb _ (List.getElem_mem h)
      · rw [List.getElem?_eq_none (by omega)]
        simp
theorem valid_rows {g : List (List Int)} (h : validG g = true) : ∀ x ∈ g, x.length ≤ 60 := by
  intro x hx
  obtain ⟨j, hj, rfl⟩ := List.getElem_of_mem hx
  have := valid_row_len h j hj
  have := valid_len h
  omega
theorem agR_small (a b : List (List Int)) : (agR a b).1.length ≤ 60 ∧ ∀ x ∈ (agR a b).1, x.length ≤ 120 := by
  unfold agR
  by_cases c : validG a = true ∧ validG b = true
  · rw [if_pos c]
    by_cases c2 : a.length * b.length ≤ 60
    · rw [if_pos c2]
      exact ⟨by show (agDone a b b.length).length ≤ 60; rw [agDone_len]; exact c2, agDone_rows a b 60 (valid_rows c.2) (valid_rows c.1) _⟩
    · rw [if_neg c2]; simp
  · rw [if_neg c]; simp
theorem FnExactAddGames (a b : List (List Int)) (hga : a.length ≤ maxLen) (hra : ∀ mv ∈ a, mv.length ≤ maxLen ∧ ∀ x ∈ mv, (Lit.int .i8 x).wf = true) (hgb : b.length ≤ maxLen) (hrb : ∀ mv ∈ b, mv.length ≤ maxLen ∧ ∀ x ∈ mv, (Lit.int .i8 x).wf = true) : ∃ k, laws_FnExactAddGames.f k a b = some true := by
  refine Ev.rounds (r := true) ?_
  obtain ⟨r, h1, hr1, h3⟩ := szGame_ev a hga (fun mv hm => (hra mv hm).1) 1048576 ⟨by omega, by omega⟩
  refine Ev.bind h1 ?_
  by_cases c : r < 0
  · exact Ev_pos c (Ev.now _)
  obtain ⟨hl1, hl2⟩ := h3 (by omega)
  obtain ⟨r2, g1, gr1, g3⟩ := szGame_ev b hgb (fun mv hm => (hrb mv hm).1) r ⟨by omega, hr1⟩
  refine Ev_neg c (Ev.bind g1 ?_)
  by_cases c2 : r2 < 0
  · exact Ev_pos c2 (Ev.now _)
  obtain ⟨kl1, kl2⟩ := g3 (by omega)
  have hva : ∀ mv ∈ a, mv.length ≤ 1048576 ∧ ∀ x ∈ mv, -128 ≤ x ∧ x ≤ 127 := fun mv hm => ⟨hl2 mv hm, fun x hx => wf_i8 ((hra mv hm).2 x hx)⟩
  have hvb : ∀ mv ∈ b, mv.length ≤ 1048576 ∧ ∀ x ∈ mv, -128 ≤ x ∧ x ≤ 127 := fun mv hm => ⟨kl2 mv hm, fun x hx => wf_i8 ((hrb mv hm).2 x hx)⟩
  have hs := spec_ag_ev a b hl1 hva kl1 hvb
  have hi := impl_ag_ev a b hl1 hva kl1 hvb
  have hsm := agR_small a b
  generalize agR a b = R at *
  obtain ⟨V, er⟩ := R
  simp only at hsm
  have ta := tot_le 1048576 a hl2
  have tb := tot_le 1048576 b kl2
  have tv := tot_le 120 V hsm.2
  have pa := tot_pos a
  have pb := tot_pos b
  have pv := tot_pos V
  have ta2 : ((1048576 : Nat) : Int) * (a.length : Int) ≤ 1048576 * 1048576 := by omega
  have tb2 : ((1048576 : Nat) : Int) * (b.length : Int) ≤ 1048576 * 1048576 := by omega
  have tv2 : ((120 : Nat) : Int) * (V.length : Int) ≤ 120 * 60 := by omega
  refine Ev_neg c2 (Ev.bind (toGame_ev a hl1 hl2) (Ev.bind (eqGame_ev a a hl1 hl2) (Ev.bind (markRows_ev a 1 (by omega) (by omega)) ?_)))
  refine Ev.bind (toGame_ev b kl1 kl2) (Ev.bind (eqGame_ev b b kl1 kl2) (Ev.bind (markRows_ev b (1 + tot a) (by omega) (by omega)) ?_))
  refine Ev.bind hs (Ev.bind hi (Ev.bind (eqGame_ev V V (by omega) (fun x hx => by have := hsm.2 x hx; omega)) (Ev.bind (markRows_ev V 1 (by omega) (by omega)) (Ev.bind (heldGame_ev V 1 (by omega) (by omega) (by omega)) ?_))))
  exact Ev_pos ⟨rfl, by simp, rfl, by simp, by simp only; omega, rfl, by simp, by simp only; omega, rfl, rfl⟩ (Ev.now _)

end Go.Proofs.Yteinllalhiflcaa.Pure
