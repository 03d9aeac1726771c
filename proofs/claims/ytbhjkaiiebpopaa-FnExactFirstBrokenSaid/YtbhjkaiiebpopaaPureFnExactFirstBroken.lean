/- FnExactFirstBroken: the printed pure statement holds: at every input the law's function answers true; no condition but the bounds of its kinds. -/
import Derived.Test.YtbhjkaiiebpopaaQFnExactFirstBrokenx6
import Derived.Test.YtbhjkaiiebpopaaLib
import Derived.Test.YtbhjkaiiebpopaaLib3
set_option linter.unusedVariables false
set_option linter.unusedSimpArgs false
namespace Go.Proofs.Ytbhjkaiiebpopaa.Pure
open Go.RowKit Go.Proofs.Ytbhjkaiiebpopaa.QFnExactFirstBroken Go.Proofs.YtbhjkaiiebpopaaW.PrintWords Go.Proofs.YtbhjkaiiebpopaaW.PrintLast Go.Proofs.Ytbhjkaiiebpopaa.Lib

theorem rdL2_nat {g : List (List Int)} {n : Nat} (h : n < g.length) : rd_L1 g (n : Int) = g[n] := by simp [rd_L1, List.getD_eq_getElem?_getD, List.getElem?_eq_getElem h]

theorem szInt8S_eq (xs : List Int) (a : Int) (hx : xs.length ≤ maxLen) (ha : 0 ≤ a ∧ a ≤ 1048576) : ∃ r, laws_szInt8S.f xs a = some r ∧ r ≤ 1048576 ∧ (0 ≤ r → xs.length ≤ 1048576) := by
  unfold maxLen at hx
  unfold laws_szInt8S.f
  rw [w64 (by omega) (by omega)]
  by_cases c : a - (xs.length : Int) < 0
  · exact ⟨-1, if_pos c, by omega, by omega⟩
  · exact ⟨_, if_neg c, by omega, by omega⟩

theorem szGame_ev (g : List (List Int)) (hg : g.length ≤ maxLen) (hr : ∀ mv ∈ g, mv.length ≤ maxLen) (a : Int) (ha : 0 ≤ a ∧ a ≤ 1048576) :
    ∃ r, Ev (fun k => laws_szGame.f k g a) r ∧ r ≤ 1048576 ∧ (0 ≤ r → g.length ≤ 1048576 ∧ ∀ mv ∈ g, mv.length ≤ 1048576) := by
  unfold maxLen at hg
  unfold laws_szGame.f
  rw [w64 (by omega) (by omega)]
  by_cases c : a - (g.length : Int) < 0
  · exact ⟨-1, Ev_pos c (Ev.now _), by omega, by omega⟩
  · have main : ∀ (d n : Nat) (b : Int), n + d = g.length → 0 ≤ b → b ≤ 1048576 → ∃ r, Ev (fun k => laws_szGame.l0 k g b (n : Int)) r ∧ r ≤ 1048576 ∧ (0 ≤ r → ∀ mv ∈ g.drop n, mv.length ≤ 1048576) := by
      intro d
      induction d with
      | zero =>
        intro n b h h0 h1
        obtain rfl : n = g.length := by omega
        refine ⟨b, Ev_round ?_, h1, by simp⟩
        simp only [laws_szGame.l0]
        exact Ev_neg (by omega) (Ev.now _)
      | succ d ih =>
        intro n b h h0 h1
        have hn : n < g.length := by omega
        obtain ⟨r, hr1, hr2, hr3⟩ := szInt8S_eq g[n] b (hr _ (List.getElem_mem hn)) ⟨h0, h1⟩
        by_cases cr : r < 0
        · refine ⟨-1, Ev_round ?_, by omega, by omega⟩
          simp only [laws_szGame.l0]
          refine Ev_pos (by omega) (Ev_pos (by omega) ?_)
          rw [rdL2_nat hn]
          exact Ev_bind1 hr1 (Ev_pos cr (Ev.now _))
        · obtain ⟨q, hq1, hq2, hq3⟩ := ih (n + 1) r (by omega) (by omega) hr2
          refine ⟨q, Ev_round ?_, hq2, fun hq => ?_⟩
          · simp only [laws_szGame.l0]
            refine Ev_pos (by omega) (Ev_pos (by omega) ?_)
            rw [rdL2_nat hn, w64 (by omega) (by omega)]
            exact Ev_bind1 hr1 (Ev_neg cr hq1)
          · rw [List.drop_eq_getElem_cons hn]
            intro mv hmv
            rcases List.mem_cons.1 hmv with rfl | hmv
            · exact hr3 (by omega)
            · exact hq3 hq mv hmv
    obtain ⟨r, h1, h2, h3⟩ := main g.length 0 (a - g.length) (by omega) (by omega) (by omega)
    exact ⟨r, Ev_neg c h1, h2, fun h => ⟨by omega, by simpa using h3 h⟩⟩

theorem toInt8S_ev (xs : List Int) (hn : xs.length ≤ 1048576) : Ev (fun k => laws_toInt8S.f k xs) xs :=
  copy_any (L := laws_toInt8S.l0) 281474976710656 (fun _ _ _ _ => rfl) xs (by omega) (by omega)

theorem toGame_ev (g : List (List Int)) (hg : g.length ≤ 1048576) (hr : ∀ mv ∈ g, mv.length ≤ 1048576) : Ev (fun k => laws_toGame.f k g) g := by
  have main : ∀ (d n : Nat) (ys : List (List Int)), n + d = g.length → ys.length = g.length → ys.take n = g.take n → Ev (fun k => laws_toGame.l0 k g ys (n : Int)) g := by
    intro d
    induction d with
    | zero =>
      intro n ys h1 h2 h3
      refine Ev_round ?_
      simp only [laws_toGame.l0]
      refine Ev_neg (by omega) (Ev_as (Ev.now _) ?_)
      rw [List.take_of_length_le (by omega), List.take_of_length_le (by omega)] at h3
      exact h3
    | succ d ih =>
      intro n ys h1 h2 h3
      have hn : n < g.length := by omega
      refine Ev_round ?_
      simp only [laws_toGame.l0]
      refine Ev_pos (by omega) (Ev_pos (by omega) ?_)
      rw [rdL2_nat hn]
      refine Ev.bind (toInt8S_ev _ (hr _ (List.getElem_mem hn))) (Ev_pos (by omega) ?_)
      rw [w64 (by omega) (by omega), Int.toNat_natCast]
      refine ih (n + 1) (ys.set n g[n]) (by omega) (by simpa using h2) ?_
      rw [List.take_succ_eq_append_getElem (by simp; omega), List.take_succ_eq_append_getElem hn, List.take_set_of_le (by omega), h3]
      simp
  refine Ev_pos (by omega) (Ev_pos (by omega) (main g.length 0 _ (by omega) (by simp) (by simp)))

theorem eqInt8S_ev (xs ys : List Int) (hn : xs.length ≤ 140737488355328) : Ev (fun k => laws_eqInt8S.f k xs ys) (decide (xs = ys)) :=
  eq_all (L := laws_eqInt8S.l0) (fun _ _ _ _ => rfl) xs ys (by omega)

theorem eqGame_ev (g h : List (List Int)) (hg : g.length ≤ 1048576) (hr : ∀ mv ∈ g, mv.length ≤ 1048576) : Ev (fun k => laws_eqGame.f k g h) (decide (g = h)) := by
  by_cases hl : g.length = h.length
  · have main : ∀ (d n : Nat), n + d = g.length → g.take n = h.take n → Ev (fun k => laws_eqGame.l0 k g h (n : Int)) (decide (g = h)) := by
      intro d
      induction d with
      | zero =>
        intro n h1 h3
        refine Ev_round ?_
        simp only [laws_eqGame.l0]
        refine Ev_neg (by omega) (Ev_as (Ev.now _) ?_)
        rw [List.take_of_length_le (by omega), List.take_of_length_le (by omega)] at h3
        simp [h3]
      | succ d ih =>
        intro n h1 h3
        have hn : n < g.length := by omega
        have hm : n < h.length := by omega
        refine Ev_round ?_
        simp only [laws_eqGame.l0]
        refine Ev_pos (by omega) (Ev_pos (by omega) (Ev_pos (by omega) ?_))
        rw [rdL2_nat hn, rdL2_nat hm, w64 (by omega) (by omega)]
        refine Ev.bind (eqInt8S_ev _ _ (by have := hr _ (List.getElem_mem hn); omega)) ?_
        by_cases e : g[n] = h[n]
        · refine Ev_pos (by simp [e]) (ih (n + 1) (by omega) ?_)
          rw [List.take_succ_eq_append_getElem hn, List.take_succ_eq_append_getElem hm, h3, e]
        · refine Ev_neg (by simp [e]) (Ev_as (Ev.now _) ?_)
          have : g ≠ h := fun x => e (by subst x; rfl)
          simp [this]
    exact Ev_pos (by omega) (main g.length 0 (by omega) (by simp))
  · refine Ev_neg (by omega) (Ev_as (Ev.now _) ?_)
    have : g ≠ h := fun e => hl (by rw [e])
    simp [this]

theorem eqNimberS_ev (xs ys : List Int) (hn : xs.length ≤ 140737488355328) : Ev (fun k => laws_eqNimberS.f k xs ys) (decide (xs = ys)) :=
  eq_all (L := laws_eqNimberS.l0) (fun _ _ _ _ => rfl) xs ys (by omega)

theorem toNimberS_ev (xs : List Int) (hn : xs.length ≤ 1048576) : Ev (fun k => laws_toNimberS.f k xs) xs :=
  copy_all (L := laws_toNimberS.l0) (fun _ _ _ _ => rfl) xs (by omega)

theorem spec_ok_ev (g : List (List Int)) (hl : g.length ≤ 1048576) (hr : ∀ mv ∈ g, mv.length ≤ 1048576 ∧ ∀ x ∈ mv, -128 ≤ x ∧ x ≤ 127) : Ev (fun k => spec_l03Ok.f k g) (validG g) := by
  have inner : ∀ (n : Nat) (hn : n < g.length) (r : Bool), Ev (fun k => spec_l03Ok.l0 k g ((n + 1 : Nat) : Int)) r →
      ∀ (d j : Nat) (p : Int), j + d = g[n].length → -1 ≤ p → p ≤ 127 → Ev (fun k => spec_l03Ok.l1 k g (n : Int) p (j : Int)) (okFrom n p (g[n].drop j) && r) := by
    intro n hn r hnext d
    have hmv := hr _ (List.getElem_mem hn)
    induction d with
    | zero =>
      intro j p h hp hp1
      obtain rfl : j = g[n].length := by omega
      refine Ev_round ?_
      simp only [spec_l03Ok.l1]
      rw [rdL2_nat hn]
      refine Ev_pos (by omega) (Ev_pos (by omega) (Ev_neg (by omega) ?_))
      rw [w64 (by omega) (by omega), List.drop_length]
      exact Ev_as hnext (by simp [okFrom])
    | succ d ih =>
      intro j p h hp hp1
      have hj : j < g[n].length := by omega
      have hx := hmv.2 _ (List.getElem_mem hj)
      refine Ev_round ?_
      simp only [spec_l03Ok.l1]
      rw [rdL2_nat hn]
      refine Ev_pos (by omega) (Ev_pos (by omega) (Ev_pos (by omega) (Ev_pos (by omega) ?_)))
      have e0 : wrap64 ((j : Int) + 1) = ((j + 1 : Nat) : Int) := by rw [w64 (by omega) (by omega)]; omega
      rw [List.drop_eq_getElem_cons hj, rd_nat hj, e0, w64 (x := g[n][j]) (by omega) (by omega), w64 (x := (n : Int) - 1) (by omega) (by omega), w64 (x := p + 1) (by omega) (by omega)]
      unfold spec_l00In.f
      by_cases c : p < g[n][j] ∧ 0 ≤ g[n][j] ∧ g[n][j] ≤ (n : Int) - 1
      · refine Ev_bind1 (if_pos (by omega)) (Ev_pos (by simp; omega) (Ev_as (ih (j + 1) _ (by omega) (by omega) (by omega)) ?_))
        simp [okFrom, c]
      · by_cases c0 : g[n][j] ≥ p + 1
        · refine Ev_bind1 (if_pos c0) (Ev_neg (by simp; omega) (Ev_as (Ev.now _) ?_))
          simp [okFrom, c]
        · refine Ev_bind1 (if_neg c0) (Ev_neg (by simp) (Ev_as (Ev.now _) ?_))
          simp [okFrom, c]
  have outer : ∀ (d n : Nat), n + d = g.length → Ev (fun k => spec_l03Ok.l0 k g (n : Int)) (okRows n (g.drop n) && decide (1 ≤ g.length ∧ g.length ≤ 60)) := by
    intro d
    induction d with
    | zero =>
      intro n h
      obtain rfl : n = g.length := by omega
      refine Ev_round ?_
      simp only [spec_l03Ok.l0]
      refine Ev_neg (by omega) ?_
      unfold spec_l00In.f
      rw [List.drop_length]
      by_cases c0 : (g.length : Int) ≥ 1
      · refine Ev_bind1 (if_pos c0) (Ev_as (Ev.now _) ?_)
        simp only [okRows, Bool.true_and]
        apply decide_eq_decide.2
        omega
      · refine Ev_bind1 (if_neg c0) (Ev_as (Ev.now _) ?_)
        simp [okRows]
        omega
    | succ d ih =>
      intro n h
      have hn : n < g.length := by omega
      refine Ev_round ?_
      simp only [spec_l03Ok.l0]
      refine Ev_pos (by omega) ?_
      rw [List.drop_eq_getElem_cons hn]
      refine Ev_as (inner n hn _ (ih (n + 1) (by omega)) g[n].length 0 (-1) (by omega) (by omega) (by omega)) ?_
      simp [okRows, Bool.and_assoc]
  exact Ev_as (outer g.length 0 (by omega)) (by simp [validG])

theorem least_ev (l : List Int) (hl : l.length ≤ 65535) (hr : ∀ x ∈ l, 0 ≤ x ∧ x ≤ 65535) : Ev (fun k => spec_l03Least.f k l) ((mexN l : Nat) : Int) := by
  have hm := mexN_is l
  have hle := mexN_le l
  have last : ∀ (d n : Nat), n + d = mexN l → Ev (fun k => spec_l03Least.l1 k (flags (l.length + 1) l) (n : Int)) ((mexN l : Nat) : Int) := by
    intro d
    induction d with
    | zero =>
      intro n h
      obtain rfl : n = mexN l := by omega
      refine Ev_round ?_
      simp only [spec_l03Least.l1]
      refine Ev_pos (by omega) (Ev_pos (by rw [flags_length]; omega) (Ev_neg ?_ ?_))
      · rw [rdOf, List.getD_eq_getElem?_getD, List.getElem?_eq_getElem (by rw [Int.toNat_natCast, flags_length]; omega), Option.getD_some, flags_get]
        simp [hm.1]
      · rw [wu16 (by omega) (by omega)]
        exact Ev.now _
    | succ d ih =>
      intro n h
      refine Ev_round ?_
      simp only [spec_l03Least.l1]
      refine Ev_pos (by omega) (Ev_pos (by rw [flags_length]; omega) (Ev_pos ?_ ?_))
      · rw [rdOf, List.getD_eq_getElem?_getD, List.getElem?_eq_getElem (by rw [Int.toNat_natCast, flags_length]; omega), Option.getD_some, flags_get]
        simp [hm.2 n (by omega)]
      · rw [w64 (by omega) (by omega)]
        exact ih (n + 1) (by omega)
  have main : ∀ (d n : Nat), n + d = l.length → Ev (fun k => spec_l03Least.l0 k l (flags (l.length + 1) (l.take n)) (n : Int)) ((mexN l : Nat) : Int) := by
    intro d
    induction d with
    | zero =>
      intro n h
      obtain rfl : n = l.length := by omega
      refine Ev_round ?_
      simp only [spec_l03Least.l0]
      refine Ev_neg (by omega) ?_
      rw [List.take_length]
      exact last (mexN l) 0 (by omega)
    | succ d ih =>
      intro n h
      have hn : n < l.length := by omega
      have hx := hr _ (List.getElem_mem hn)
      have ht : l.take (n + 1) = l.take n ++ [l[n]] := by rw [List.take_succ_eq_append_getElem hn]
      refine Ev_round ?_
      simp only [spec_l03Least.l0]
      refine Ev_pos (by omega) (Ev_pos (by omega) ?_)
      rw [rd_nat hn, w64 (by omega) (by omega), w64 (by omega) (by omega), flags_length]
      have nx := ih (n + 1) (by omega)
      rw [ht] at nx
      by_cases c : l[n] < ((l.length + 1 : Nat) : Int)
      · refine Ev_pos c (Ev_pos (by omega) (Ev_pos c ?_))
        rw [flags_set _ _ _ (by omega), Int.toNat_of_nonneg hx.1]
        exact nx
      · refine Ev_neg c ?_
        rw [flags_out _ _ _ (by omega)] at nx
        exact nx
  unfold spec_l03Least.f
  rw [w64 (by omega) (by omega)]
  refine Ev_pos (by omega) (Ev_pos (by omega) ?_)
  have := main l.length 0 (by omega)
  rw [List.take_zero, flags_nil] at this
  exact this

/-- The first place that is not as told, from n on; -1 if the list is a proof. -/
def brokenR (l : List Int) (G : Nat) : List (List Int) → Nat → Int
  | [], _ => if l.length > G then (G : Int) else -1
  | mv :: t, n => if l.length ≤ n then (n : Int) else if ((mexN (mv.map (rd l)) : Nat) : Int) = rd l (n : Int) then brokenR l G t (n + 1) else (n : Int)
theorem broken_row {g : List (List Int)} (h : validG g = true) (n : Nat) (hn : n < g.length) (l : List Int) (hl : n < l.length) (hr : ∀ x ∈ l, 0 ≤ x ∧ x ≤ 65535) :
    g[n].length ≤ 60 ∧ (∀ x ∈ g[n], 0 ≤ x ∧ x < (l.length : Int)) ∧ ∀ x ∈ g[n].map (rd l), 0 ≤ x ∧ x ≤ 65535 := by
  have h1 := valid_row_len h n hn
  have h2 := valid_len h
  have h3 := valid_at h n hn
  have h4 : ∀ x ∈ g[n], 0 ≤ x ∧ x < (l.length : Int) := fun x hx => by have := h3 x hx; omega
  refine ⟨by omega, h4, fun x hx => ?_⟩
  obtain ⟨y, hy, rfl⟩ := List.mem_map.1 hx
  exact hr _ (rd_mem (h4 y hy).1 (h4 y hy).2)
theorem spec_broken_ev (g : List (List Int)) (h : validG g = true) (l : List Int) (hl : l.length ≤ 1048576) (hr : ∀ x ∈ l, 0 ≤ x ∧ x ≤ 65535) : Ev (fun k => spec_l03Broken.f k g l) (brokenR l g.length g 0) := by
  have hlen := valid_len h
  have outer : ∀ (d n : Nat), n + d = g.length → Ev (fun k => spec_l03Broken.l0 k g l (n : Int)) (brokenR l g.length (g.drop n) n) := by
    intro d
    induction d with
    | zero =>
      intro n hn
      obtain rfl : n = g.length := by omega
      refine Ev_round ?_
      simp only [spec_l03Broken.l0]
      rw [List.drop_length]
      refine Ev_neg (by omega) ?_
      unfold brokenR
      by_cases c : l.length > g.length
      · rw [if_pos c]; exact Ev_pos (by omega) (Ev.now _)
      · rw [if_neg c]; exact Ev_neg (by omega) (Ev.now _)
    | succ d ih =>
      intro n hn
      have hlt : n < g.length := by omega
      rw [List.drop_eq_getElem_cons hlt]
      refine Ev_round ?_
      simp only [spec_l03Broken.l0]
      refine Ev_pos (by omega) ?_
      unfold brokenR
      by_cases c : l.length ≤ n
      · rw [if_pos c]; exact Ev_pos (by omega) (Ev.now _)
      · rw [if_neg c]
        refine Ev_neg (by omega) ?_
        obtain ⟨b1, b2, b3⟩ := broken_row h n hlt l (by omega) hr
        have nx := ih (n + 1) (by omega)
        have inner : ∀ (e j : Nat), j + e = g[n].length → Ev (fun k => spec_l03Broken.l1 k g l (n : Int) ((g[n].take j).map (rd l)) (j : Int)) (if ((mexN (g[n].map (rd l)) : Nat) : Int) = rd l (n : Int) then brokenR l g.length (g.drop (n + 1)) (n + 1) else (n : Int)) := by
          intro e
          induction e with
          | zero =>
            intro j hj
            obtain rfl : j = g[n].length := by omega
            refine Ev_round ?_
            simp only [spec_l03Broken.l1]
            rw [rdL2_nat hlt, List.take_length]
            refine Ev_pos (by omega) (Ev_pos (by omega) (Ev_neg (by omega) (Ev.bind (least_ev _ (by simp; omega) b3) (Ev_pos (by omega) ?_))))
            rw [w64 (by omega) (by omega)]
            exact Ev_ite (fun _ => nx) (fun _ => Ev.now _)
          | succ e ihe =>
            intro j hj
            have hjl : j < g[n].length := by omega
            obtain ⟨x1, x2⟩ := b2 _ (List.getElem_mem hjl)
            refine Ev_round ?_
            simp only [spec_l03Broken.l1]
            rw [rdL2_nat hlt, rd_nat hjl]
            refine Ev_pos (by omega) (Ev_pos (by omega) (Ev_pos (by omega) (Ev_pos (by omega) (Ev_pos x1 (Ev_pos x2 (Ev_pos (by simp; omega) ?_))))))
            rw [w64 (by omega) (by omega)]
            have := ihe (j + 1) (by omega)
            rw [List.take_succ_eq_append_getElem hjl, List.map_append] at this
            exact this
        exact inner g[n].length 0 (by omega)
  exact outer g.length 0 (by omega)

theorem impl_valid_ev (g : List (List Int)) (hl : g.length ≤ 1048576) (hr : ∀ mv ∈ g, mv.length ≤ 1048576 ∧ ∀ x ∈ mv, -128 ≤ x ∧ x ≤ 127) : Ev (fun k => impl_ValidGame.f k g) (validG g) := by
  -- the moves of one place, from one of them on
  have inner : ∀ (n : Nat) (hn : n < g.length) (r : Bool), Ev (fun k => impl_ValidGame.l0 k g g g.length ((n + 1 : Nat) : Int)) r →
      ∀ (d j : Nat) (p : Int), j + d = g[n].length → (j = 0 → p = -1) → (∀ h : 0 < j, ∀ h' : j - 1 < g[n].length, p = g[n][j - 1]) → -1 ≤ p →
        Ev (fun k => impl_ValidGame.l1 k g (n : Int) g[n] g g.length (n : Int) g[n] g[n].length (j : Int)) (okFrom n p (g[n].drop j) && r) := by
    intro n hn r hnext d
    have hmv := hr _ (List.getElem_mem hn)
    induction d with
    | zero =>
      intro j p h _ _ _
      obtain rfl : j = g[n].length := by omega
      refine Ev_round ?_
      simp only [impl_ValidGame.l1]
      refine Ev_neg (by omega) ?_
      rw [w64 (by omega) (by omega), List.drop_length]
      exact Ev_as hnext (by simp [okFrom])
    | succ d ih =>
      intro j p h h0 h1 hp
      have hj : j < g[n].length := by omega
      have hx := hmv.2 _ (List.getElem_mem hj)
      refine Ev_round ?_
      simp only [impl_ValidGame.l1]
      refine Ev_pos (by omega) (Ev_pos (by omega) (Ev_pos (by omega) ?_))
      rw [List.drop_eq_getElem_cons hj, rd_nat hj, w64 (by omega) (by omega), w64 (x := (n : Int) - 1) (by omega) (by omega)]
      unfold impl_within.f
      by_cases c0 : 0 ≤ g[n][j]
      · by_cases c1 : g[n][j] ≤ (n : Int) - 1
        · refine Ev_bind1 (if_pos c0) (Ev_pos (by simpa using c1) ?_)
          have e0 : wrap64 ((j : Int) + 1) = ((j + 1 : Nat) : Int) := by rw [w64 (by omega) (by omega)]; omega
          rw [e0]
          by_cases cj : (j : Int) > 0
          · have e1 : wrap64 ((j : Int) - 1) = ((j - 1 : Nat) : Int) := by rw [w64 (by omega) (by omega)]; omega
            rw [e1]
            refine Ev_pos cj (Ev_pos (by omega) (Ev_pos (by omega) ?_))
            rw [rd_nat (show j - 1 < g[n].length by omega)]
            have hpp := h1 (by omega) (by omega)
            by_cases c2 : g[n][j] ≤ g[n][j - 1]'(by omega)
            · refine Ev_pos c2 (Ev_as (Ev.now _) ?_)
              have : ¬ (p < g[n][j] ∧ 0 ≤ g[n][j] ∧ g[n][j] ≤ (n : Int) - 1) := by omega
              simp [okFrom, this]
            · refine Ev_neg c2 (Ev_as (ih (j + 1) g[n][j] (by omega) (by omega) (fun _ _ => by simp) (by omega)) ?_)
              have : p < g[n][j] ∧ 0 ≤ g[n][j] ∧ g[n][j] ≤ (n : Int) - 1 := by omega
              simp [okFrom, this]
          · refine Ev_neg cj (Ev_as (ih (j + 1) g[n][j] (by omega) (by omega) (fun _ _ => by simp) (by omega)) ?_)
            have hp0 := h0 (by omega)
            have : p < g[n][j] ∧ 0 ≤ g[n][j] ∧ g[n][j] ≤ (n : Int) - 1 := by omega
            simp [okFrom, this]
        · refine Ev_bind1 (if_pos c0) (Ev_neg (by simpa using c1) (Ev_as (Ev.now _) ?_))
          have : ¬ (p < g[n][j] ∧ 0 ≤ g[n][j] ∧ g[n][j] ≤ (n : Int) - 1) := by omega
          simp [okFrom, this]
      · refine Ev_bind1 (if_neg c0) (Ev_neg (by simp) (Ev_as (Ev.now _) ?_))
        have : ¬ (p < g[n][j] ∧ 0 ≤ g[n][j] ∧ g[n][j] ≤ (n : Int) - 1) := by omega
        simp [okFrom, this]
  have outer : ∀ (d n : Nat), n + d = g.length → Ev (fun k => impl_ValidGame.l0 k g g g.length (n : Int)) (okRows n (g.drop n) && decide (1 ≤ g.length ∧ g.length ≤ 60)) := by
    intro d
    induction d with
    | zero =>
      intro n h
      obtain rfl : n = g.length := by omega
      refine Ev_round ?_
      simp only [impl_ValidGame.l0]
      refine Ev_neg (by omega) ?_
      unfold impl_within.f
      rw [List.drop_length]
      by_cases c0 : 1 ≤ (g.length : Int)
      · refine Ev_bind1 (if_pos c0) (Ev_as (Ev.now _) ?_)
        simp only [okRows, Bool.true_and]
        apply decide_eq_decide.2
        omega
      · refine Ev_bind1 (if_neg c0) (Ev_as (Ev.now _) ?_)
        simp [okRows]
        omega
    | succ d ih =>
      intro n h
      have hn : n < g.length := by omega
      refine Ev_round ?_
      simp only [impl_ValidGame.l0]
      refine Ev_pos (by omega) (Ev_pos (by omega) (Ev_pos (by omega) ?_))
      rw [rdL2_nat hn, List.drop_eq_getElem_cons hn]
      refine Ev_as (inner n hn _ (ih (n + 1) (by omega)) g[n].length 0 (-1) (by omega) (fun _ => rfl) (fun h _ => by omega) (by omega)) ?_
      simp [okRows, Bool.and_assoc]
  exact Ev_as (outer g.length 0 (by omega)) (by simp [validG])

theorem index_false_ev (fl : List Bool) (n : Nat) (hn : n < fl.length) (hl : fl.length ≤ 9223372036854775806) (h1 : fl[n] = false) (h2 : ∀ m (hm : m < n), fl[m] = true) :
    Ev (fun k => slices_Index_bool_bool.f k fl false) (n : Int) := by
  have main : ∀ (d m : Nat), m + d = n → Ev (fun k => slices_Index_bool_bool.l0 k fl false fl.length (m : Int)) (n : Int) := by
    intro d
    induction d with
    | zero =>
      intro m hm
      obtain rfl : m = n := by omega
      refine Ev_round ?_
      simp only [slices_Index_bool_bool.l0]
      refine Ev_pos (by omega) (Ev_pos (by omega) (Ev_pos (by omega) (Ev_pos ?_ (Ev.now _))))
      simp [rdOf, List.getD_eq_getElem?_getD, List.getElem?_eq_getElem hn, h1]
    | succ d ih =>
      intro m hm
      refine Ev_round ?_
      simp only [slices_Index_bool_bool.l0]
      refine Ev_pos (by omega) (Ev_pos (by omega) (Ev_pos (by omega) (Ev_neg ?_ ?_)))
      · simp [rdOf, List.getD_eq_getElem?_getD, List.getElem?_eq_getElem (show m < fl.length by omega), h2 m (by omega)]
      · rw [w64 (by omega) (by omega)]
        exact ih (m + 1) (by omega)
  exact main n 0 (by omega)

theorem mex_index (l : List Int) : (mexN l < (flags (l.length + 1) l).length) ∧ (∀ h, (flags (l.length + 1) l)[mexN l]'h = false) ∧ ∀ m (hm : m < mexN l) h, (flags (l.length + 1) l)[m]'h = true := by
  have hm := mexN_is l
  have hle := mexN_le l
  refine ⟨by rw [flags_length]; omega, fun h => ?_, fun m hlt h => ?_⟩
  · rw [flags_get]; simp [hm.1]
  · rw [flags_get]; simp [hm.2 m hlt]
theorem impl_mex_ev (l : List Int) (hl : l.length ≤ 140737488355327) (hr : ∀ x ∈ l, 0 ≤ x ∧ x ≤ 65535) : Ev (fun k => impl_mex.f k l) ((mexN l : Nat) : Int) := by
  have main : ∀ (d n : Nat), n + d = l.length → Ev (fun k => impl_mex.l0 k (flags (l.length + 1) (l.take n)) l l.length (n : Int)) ((mexN l : Nat) : Int) := by
    intro d
    induction d with
    | zero =>
      intro n h
      obtain rfl : n = l.length := by omega
      refine Ev_round ?_
      simp only [impl_mex.l0]
      refine Ev_neg (by omega) (Ev.bind ?_ (Ev.now _))
      rw [List.take_length]
      obtain ⟨a, b, c⟩ := mex_index l
      exact index_false_ev _ _ a (by rw [flags_length]; omega) (b a) (fun m hm => c m hm (by omega))
    | succ d ih =>
      intro n h
      have hn : n < l.length := by omega
      have hx := hr _ (List.getElem_mem hn)
      have ht : l.take (n + 1) = l.take n ++ [l[n]] := by rw [List.take_succ_eq_append_getElem hn]
      refine Ev_round ?_
      simp only [impl_mex.l0]
      refine Ev_pos (by omega) (Ev_pos (by omega) (Ev_pos (by omega) ?_))
      rw [rd_nat hn, w64 (by omega) (by omega), w64 (by omega) (by omega), flags_length]
      have nx := ih (n + 1) (by omega)
      rw [ht] at nx
      by_cases c : l[n] < ((l.length + 1 : Nat) : Int)
      · refine Ev_pos c (Ev_pos (by omega) (Ev_pos c ?_))
        rw [flags_set _ _ _ (by omega), Int.toNat_of_nonneg hx.1]
        exact nx
      · refine Ev_neg c ?_
        rw [flags_out _ _ _ (by omega)] at nx
        exact nx
  unfold impl_mex.f
  rw [w64 (by omega) (by omega)]
  refine Ev_pos (by omega) (Ev_pos (by omega) ?_)
  have := main l.length 0 (by omega)
  rw [List.take_zero, flags_nil] at this
  exact this

theorem index_nim_ev (l : List Int) (x : Int) (hl : l.length ≤ 140737488355328) : ∃ r, Ev (fun k => impl_Nimber_90.f k l x) r ∧ (0 ≤ r ↔ x ∈ l) := by
  have main : ∀ (d n : Nat), n + d = l.length → ∃ r, Ev (fun k => impl_Nimber_90.l0 k l x l.length (n : Int)) r ∧ (0 ≤ r ↔ x ∈ l.drop n) := by
    intro d
    induction d with
    | zero =>
      intro n h
      obtain rfl : n = l.length := by omega
      refine ⟨-1, Ev_round ?_, by simp⟩
      simp only [impl_Nimber_90.l0]
      exact Ev_neg (by omega) (Ev.now _)
    | succ d ih =>
      intro n h
      have hn : n < l.length := by omega
      by_cases c : x = l[n]
      · refine ⟨(n : Int), Ev_round ?_, ?_⟩
        · simp only [impl_Nimber_90.l0]
          rw [rd_nat hn]
          exact Ev_pos (by omega) (Ev_pos (by omega) (Ev_pos (by omega) (Ev_pos c (Ev.now _))))
        · rw [List.drop_eq_getElem_cons hn, ← c]
          simp
      · obtain ⟨r, h1, h2⟩ := ih (n + 1) (by omega)
        refine ⟨r, Ev_round ?_, ?_⟩
        · simp only [impl_Nimber_90.l0]
          rw [rd_nat hn, w64 (by omega) (by omega)]
          exact Ev_pos (by omega) (Ev_pos (by omega) (Ev_pos (by omega) (Ev_neg c h1)))
        · rw [List.drop_eq_getElem_cons hn, List.mem_cons]
          simp [c, h2]
  obtain ⟨r, h1, h2⟩ := main l.length 0 (by omega)
  exact ⟨r, h1, by simpa using h2⟩

theorem contains_nim_ev (l : List Int) (x : Int) (hl : l.length ≤ 140737488355328) : Ev (fun k => impl_Nimber_87.f k l x) (decide (x ∈ l)) := by
  obtain ⟨r, h1, h2⟩ := index_nim_ev l x hl
  refine Ev.bind h1 (Ev_as (Ev.now _) ?_)
  exact decide_eq_decide.2 h2

theorem impl_broken_ev (g : List (List Int)) (h : validG g = true) (l : List Int) (hl : l.length ≤ 1048576) (hr : ∀ x ∈ l, 0 ≤ x ∧ x ≤ 65535) : Ev (fun k => impl_Game_firstBroken.f k g l) (brokenR l g.length g 0) := by
  have hlen := valid_len h
  have outer : ∀ (d n : Nat), n + d = g.length → Ev (fun k => impl_Game_firstBroken.l0 k g l g g.length (n : Int)) (brokenR l g.length (g.drop n) n) := by
    intro d
    induction d with
    | zero =>
      intro n hn
      obtain rfl : n = g.length := by omega
      refine Ev_round ?_
      simp only [impl_Game_firstBroken.l0]
      rw [List.drop_length]
      refine Ev_neg (by omega) ?_
      unfold brokenR
      by_cases c : l.length > g.length
      · rw [if_pos c]; exact Ev_pos (by omega) (Ev.now _)
      · rw [if_neg c]; exact Ev_neg (by omega) (Ev.now _)
    | succ d ih =>
      intro n hn
      have hlt : n < g.length := by omega
      rw [List.drop_eq_getElem_cons hlt]
      refine Ev_round ?_
      simp only [impl_Game_firstBroken.l0]
      refine Ev_pos (by omega) (Ev_pos (by omega) (Ev_pos (by omega) ?_))
      rw [rdL2_nat hlt]
      unfold brokenR
      by_cases c : l.length ≤ n
      · rw [if_pos c]; exact Ev_pos (by omega) (Ev.now _)
      · rw [if_neg c]
        refine Ev_neg (by omega) ?_
        obtain ⟨b1, b2, b3⟩ := broken_row h n hlt l (by omega) hr
        have nx := ih (n + 1) (by omega)
        have hv := hr _ (rd_mem (xs := l) (i := (n : Int)) (by omega) (by omega))
        have hm := mexN_is (g[n].map (rd l))
        have hml := mexN_le (g[n].map (rd l))
        rw [List.length_map] at hml
        have inner : ∀ (e j : Nat), j + e = g[n].length → Ev (fun k => impl_Game_firstBroken.l1 k g l (n : Int) ((g[n].take j).map (rd l)) g g.length (n : Int) g[n] g[n].length (j : Int)) (if ((mexN (g[n].map (rd l)) : Nat) : Int) = rd l (n : Int) then brokenR l g.length (g.drop (n + 1)) (n + 1) else (n : Int)) := by
          intro e
          induction e with
          | zero =>
            intro j hj
            obtain rfl : j = g[n].length := by omega
            refine Ev_round ?_
            simp only [impl_Game_firstBroken.l1]
            rw [List.take_length]
            refine Ev_neg (by omega) (Ev.bind (impl_mex_ev _ (by simp; omega) b3) (Ev_pos (by omega) (Ev_pos (by omega) ?_)))
            rw [w64 (by omega) (by omega), w64 (by omega) (by omega)]
            by_cases c1 : ((mexN (g[n].map (rd l)) : Nat) : Int) < rd l (n : Int)
            · rw [if_neg (by omega)]
              exact Ev_pos c1 (Ev.now _)
            · refine Ev_neg c1 (Ev.bind (contains_nim_ev _ _ (by simp; omega)) ?_)
              by_cases c2 : ((mexN (g[n].map (rd l)) : Nat) : Int) = rd l (n : Int)
              · rw [if_pos c2]
                refine Ev_neg ?_ nx
                rw [← c2]
                simp [hm.1]
              · rw [if_neg c2]
                refine Ev_pos ?_ (Ev.now _)
                have := hm.2 (rd l (n : Int)).toNat (by omega)
                rw [Int.toNat_of_nonneg hv.1] at this
                simpa using this
          | succ e ihe =>
            intro j hj
            have hjl : j < g[n].length := by omega
            obtain ⟨x1, x2⟩ := b2 _ (List.getElem_mem hjl)
            refine Ev_round ?_
            simp only [impl_Game_firstBroken.l1]
            rw [rd_nat hjl]
            refine Ev_pos (by omega) (Ev_pos (by omega) (Ev_pos (by omega) (Ev_pos x1 (Ev_pos x2 (Ev_pos (by simp; omega) ?_)))))
            rw [w64 (by omega) (by omega)]
            have := ihe (j + 1) (by omega)
            rw [List.take_succ_eq_append_getElem hjl, List.map_append] at this
            exact this
        exact inner g[n].length 0 (by omega)
  exact outer g.length 0 (by omega)

theorem spec_answer (g : List (List Int)) (l : List Int) (hg : g.length ≤ 1048576) (hv : ∀ mv ∈ g, mv.length ≤ 1048576 ∧ ∀ x ∈ mv, -128 ≤ x ∧ x ≤ 127) (hl : l.length ≤ 1048576) (hr : ∀ x ∈ l, 0 ≤ x ∧ x ≤ 65535) :
    ∃ r, Ev (fun k => spec_FirstBroken.f k g l) r ∧ Ev (fun k => impl_FirstBroken.f k g l) r := by
  by_cases c : validG g = true
  · have hs := spec_broken_ev g c l hl hr
    have hi := impl_broken_ev g c l hl hr
    generalize brokenR l g.length g 0 = b at *
    by_cases cb : b < 0
    · exact ⟨_, Ev.bind (spec_ok_ev g hg hv) (Ev_pos c (Ev.bind hs (Ev_pos cb (Ev.now _)))), Ev.bind (impl_valid_ev g hg hv) (Ev_pos c (Ev.bind hi (Ev_pos cb (Ev.now _))))⟩
    · exact ⟨_, Ev.bind (spec_ok_ev g hg hv) (Ev_pos c (Ev.bind hs (Ev_neg cb (Ev.now _)))), Ev.bind (impl_valid_ev g hg hv) (Ev_pos c (Ev.bind hi (Ev_neg cb (Ev.now _))))⟩
  · exact ⟨_, Ev.bind (spec_ok_ev g hg hv) (Ev_neg c (Ev.now _)), Ev.bind (impl_valid_ev g hg hv) (Ev_neg c (Ev.now _))⟩
theorem FnExactFirstBroken (g : List (List Int)) (l : List Int) (hg : g.length ≤ maxLen) (hr : ∀ mv ∈ g, mv.length ≤ maxLen ∧ ∀ x ∈ mv, (Lit.int .i8 x).wf = true) (hl : l.length ≤ maxLen) (hw : ∀ x ∈ l, (Lit.int .u16 x).wf = true) : ∃ k, laws_FnExactFirstBroken.f k g l = some true := by
  refine Ev.rounds (r := true) ?_
  by_cases cl : (l.length : Int) > 1048576
  · exact Ev_pos cl (Ev.now _)
  refine Ev_neg cl ?_
  obtain ⟨r, h1, _, h3⟩ := szGame_ev g hg (fun mv hm => (hr mv hm).1) 1048576 ⟨by omega, by omega⟩
  refine Ev.bind h1 ?_
  by_cases c : r < 0
  · exact Ev_pos c (Ev.now _)
  · obtain ⟨hl1, hl2⟩ := h3 (by omega)
    have hv : ∀ mv ∈ g, mv.length ≤ 1048576 ∧ ∀ x ∈ mv, -128 ≤ x ∧ x ≤ 127 := fun mv hm => ⟨hl2 mv hm, fun x hx => wf_i8 ((hr mv hm).2 x hx)⟩
    have hw2 : ∀ x ∈ l, 0 ≤ x ∧ x ≤ 65535 := fun x hx => wf_u16 (hw x hx)
    obtain ⟨a, a1, a2⟩ := spec_answer g l hl1 hv (by omega) hw2
    refine Ev_neg c (Ev.bind (toGame_ev g hl1 hl2) (Ev.bind (toNimberS_ev l (by omega)) (Ev.bind a1 (Ev.bind (toGame_ev g hl1 hl2) (Ev.bind (toNimberS_ev l (by omega)) (Ev.bind a2 ?_))))))
    refine Ev_pos rfl (Ev_round (Ev_neg (by simp) ?_))
    refine Ev.bind (toGame_ev g hl1 hl2) (Ev.bind (eqGame_ev g g hl1 hl2) (Ev_pos (by simp) ?_))
    exact Ev.bind (toNimberS_ev l (by omega)) (Ev.bind (eqNimberS_ev l l (by omega)) (Ev_pos (by simp) (Ev.now _)))

end Go.Proofs.Ytbhjkaiiebpopaa.Pure
