/- FnExactLongestPlay: the printed pure statement holds: at every input the law's function answers true; no condition but the bounds of its kinds. -/
import Derived.Test.YtbhjkaiiebpopaaQFnExactLongestPlayx4
import Derived.Test.YtbhjkaiiebpopaaLib
import Derived.Test.YtbhjkaiiebpopaaLib3
set_option linter.unusedVariables false
set_option linter.unusedSimpArgs false
namespace Go.Proofs.Ytbhjkaiiebpopaa.Pure
open Go.RowKit Go.Proofs.Ytbhjkaiiebpopaa.QFnExactLongestPlay Go.Proofs.YtbhjkaiiebpopaaW.PrintWords Go.Proofs.YtbhjkaiiebpopaaW.PrintLast Go.Proofs.Ytbhjkaiiebpopaa.Lib

theorem rdL2_nat {g : List (List Int)} {n : Nat} (h : n < g.length) : rd_L1 g (n : Int) = g[n] := by simp [rd_L1, List.getD_eq_getElem?_getD, List.getElem?_eq_getElem h]

theorem szInt8S_eq (xs : List Int) (a : Int) (hx : xs.length ≤ maxLen) (ha : 0 ≤ a ∧ a ≤ 1048576) : ∃ r, laws_szInt8S.f xs a = some r ∧ r ≤ 1048576 ∧ (0 ≤ r → xs.length ≤ 1048576) := by
  unfold maxLen at hx
  unfold laws_szInt8S.f
  rw [w64 (by omega) (by omega)]
  by_cases c : a - (xs.length : Int) < 0
  · exact ⟨-1, if_pos c, by omega, by omega⟩
  · exact ⟨_, if_neg c, by omega, by omega⟩

theorem szGame_ev (g : List (List Int)) (hg : g.length ≤ maxLen) (hr : ∀ mv ∈ g, mv.length ≤ maxLen) (a : Int) (ha : 0 ≤ a ∧ a ≤ 1048576) :
    ∃ r, Ev (fun k => laws_szGame.f k g a) r ∧ r ≤ 1048576 ∧ (0 ≤ r → g.length ≤ 1048576 ∧ ∀ mv ∈ g, mv.length ≤ 1048576) := by
  unfold maxLen at hg
  unfold laws_szGame.f
  rw [w64 (by omega) (by omega)]
  by_cases c : a - (g.length : Int) < 0
  · exact ⟨-1, Ev_pos c (Ev.now _), by omega, by omega⟩
  · have main : ∀ (d n : Nat) (b : Int), n + d = g.length → 0 ≤ b → b ≤ 1048576 → ∃ r, Ev (fun k => laws_szGame.l0 k g b (n : Int)) r ∧ r ≤ 1048576 ∧ (0 ≤ r → ∀ mv ∈ g.drop n, mv.length ≤ 1048576) := by
      intro d
      induction d with
      | zero =>
        intro n b h h0 h1
        obtain rfl : n = g.length := by omega
        refine ⟨b, Ev_round ?_, h1, by simp⟩
        simp only [laws_szGame.l0]
        exact Ev_neg (by omega) (Ev.now _)
      | succ d ih =>
        intro n b h h0 h1
        have hn : n < g.length := by omega
        obtain ⟨r, hr1, hr2, hr3⟩ := szInt8S_eq g[n] b (hr _ (List.getElem_mem hn)) ⟨h0, h1⟩
        by_cases cr : r < 0
        · refine ⟨-1, Ev_round ?_, by omega, by omega⟩
          simp only [laws_szGame.l0]
          refine Ev_pos (by omega) (Ev_pos (by omega) ?_)
          rw [rdL2_nat hn]
          exact Ev_bind1 hr1 (Ev_pos cr (Ev.now _))
        · obtain ⟨q, hq1, hq2, hq3⟩ := ih (n + 1) r (by omega) (by omega) hr2
          refine ⟨q, Ev_round ?_, hq2, fun hq => ?_⟩
          · simp only [laws_szGame.l0]
            refine Ev_pos (by omega) (Ev_pos (by omega) ?_)
            rw [rdL2_nat hn, w64 (by omega) (by omega)]
            exact Ev_bind1 hr1 (Ev_neg cr hq1)
          · rw [List.drop_eq_getElem_cons hn]
            intro mv hmv
            rcases List.mem_cons.1 hmv with rfl | hmv
            · exact hr3 (by omega)
            · exact hq3 hq mv hmv
    obtain ⟨r, h1, h2, h3⟩ := main g.length 0 (a - g.length) (by omega) (by omega) (by omega)
    exact ⟨r, Ev_neg c h1, h2, fun h => ⟨by omega, by simpa using h3 h⟩⟩

theorem toInt8S_ev (xs : List Int) (hn : xs.length ≤ 1048576) : Ev (fun k => laws_toInt8S.f k xs) xs :=
  copy_any (L := laws_toInt8S.l0) 281474976710656 (fun _ _ _ _ => rfl) xs (by omega) (by omega)

theorem toGame_ev (g : List (List Int)) (hg : g.length ≤ 1048576) (hr : ∀ mv ∈ g, mv.length ≤ 1048576) : Ev (fun k => laws_toGame.f k g) g := by
  have main : ∀ (d n : Nat) (ys : List (List Int)), n + d = g.length → ys.length = g.length → ys.take n = g.take n → Ev (fun k => laws_toGame.l0 k g ys (n : Int)) g := by
    intro d
    induction d with
    | zero =>
      intro n ys h1 h2 h3
      refine Ev_round ?_
      simp only [laws_toGame.l0]
      refine Ev_neg (by omega) (Ev_as (Ev.now _) ?_)
      rw [List.take_of_length_le (by omega), List.take_of_length_le (by omega)] at h3
      exact h3
    | succ d ih =>
      intro n ys h1 h2 h3
      have hn : n < g.length := by omega
      refine Ev_round ?_
      simp only [laws_toGame.l0]
      refine Ev_pos (by omega) (Ev_pos (by omega) ?_)
      rw [rdL2_nat hn]
      refine Ev.bind (toInt8S_ev _ (hr _ (List.getElem_mem hn))) (Ev_pos (by omega) ?_)
      rw [w64 (by omega) (by omega), Int.toNat_natCast]
      refine ih (n + 1) (ys.set n g[n]) (by omega) (by simpa using h2) ?_
      rw [List.take_succ_eq_append_getElem (by simp; omega), List.take_succ_eq_append_getElem hn, List.take_set_of_le (by omega), h3]
      simp
  refine Ev_pos (by omega) (Ev_pos (by omega) (main g.length 0 _ (by omega) (by simp) (by simp)))

theorem eqInt8S_ev (xs ys : List Int) (hn : xs.length ≤ 140737488355328) : Ev (fun k => laws_eqInt8S.f k xs ys) (decide (xs = ys)) :=
  eq_all (L := laws_eqInt8S.l0) (fun _ _ _ _ => rfl) xs ys (by omega)

theorem eqGame_ev (g h : List (List Int)) (hg : g.length ≤ 1048576) (hr : ∀ mv ∈ g, mv.length ≤ 1048576) : Ev (fun k => laws_eqGame.f k g h) (decide (g = h)) := by
  by_cases hl : g.length = h.length
  · have main : ∀ (d n : Nat), n + d = g.length → g.take n = h.take n → Ev (fun k => laws_eqGame.l0 k g h (n : Int)) (decide (g = h)) := by
      intro d
      induction d with
      | zero =>
        intro n h1 h3
        refine Ev_round ?_
        simp only [laws_eqGame.l0]
        refine Ev_neg (by omega) (Ev_as (Ev.now _) ?_)
        rw [List.take_of_length_le (by omega), List.take_of_length_le (by omega)] at h3
        simp [h3]
      | succ d ih =>
        intro n h1 h3
        have hn : n < g.length := by omega
        have hm : n < h.length := by omega
        refine Ev_round ?_
        simp only [laws_eqGame.l0]
        refine Ev_pos (by omega) (Ev_pos (by omega) (Ev_pos (by omega) ?_))
        rw [rdL2_nat hn, rdL2_nat hm, w64 (by omega) (by omega)]
        refine Ev.bind (eqInt8S_ev _ _ (by have := hr _ (List.getElem_mem hn); omega)) ?_
        by_cases e : g[n] = h[n]
        · refine Ev_pos (by simp [e]) (ih (n + 1) (by omega) ?_)
          rw [List.take_succ_eq_append_getElem hn, List.take_succ_eq_append_getElem hm, h3, e]
        · refine Ev_neg (by simp [e]) (Ev_as (Ev.now _) ?_)
          have : g ≠ h := fun x => e (by subst x; rfl)
          simp [this]
    exact Ev_pos (by omega) (main g.length 0 (by omega) (by simp))
  · refine Ev_neg (by omega) (Ev_as (Ev.now _) ?_)
    have : g ≠ h := fun e => hl (by rw [e])
    simp [this]

theorem spec_ok_ev (g : List (List Int)) (hl : g.length ≤ 1048576) (hr : ∀ mv ∈ g, mv.length ≤ 1048576 ∧ ∀ x ∈ mv, -128 ≤ x ∧ x ≤ 127) : Ev (fun k => spec_l03Ok.f k g) (validG g) := by
  have inner : ∀ (n : Nat) (hn : n < g.length) (r : Bool), Ev (fun k => spec_l03Ok.l0 k g ((n + 1 : Nat) : Int)) r →
      ∀ (d j : Nat) (p : Int), j + d = g[n].length → -1 ≤ p → p ≤ 127 → Ev (fun k => spec_l03Ok.l1 k g (n : Int) p (j : Int)) (okFrom n p (g[n].drop j) && r) := by
    intro n hn r hnext d
    have hmv := hr _ (List.getElem_mem hn)
    induction d with
    | zero =>
      intro j p h hp hp1
      obtain rfl : j = g[n].length := by omega
      refine Ev_round ?_
      simp only [spec_l03Ok.l1]
      rw [rdL2_nat hn]
      refine Ev_pos (by omega) (Ev_pos (by omega) (Ev_neg (by omega) ?_))
      rw [w64 (by omega) (by omega), List.drop_length]
      exact Ev_as hnext (by simp [okFrom])
    | succ d ih =>
      intro j p h hp hp1
      have hj : j < g[n].length := by omega
      have hx := hmv.2 _ (List.getElem_mem hj)
      refine Ev_round ?_
      simp only [spec_l03Ok.l1]
      rw [rdL2_nat hn]
      refine Ev_pos (by omega) (Ev_pos (by omega) (Ev_pos (by omega) (Ev_pos (by omega) ?_)))
      have e0 : wrap64 ((j : Int) + 1) = ((j + 1 : Nat) : Int) := by rw [w64 (by omega) (by omega)]; omega
      rw [List.drop_eq_getElem_cons hj, rd_nat hj, e0, w64 (x := g[n][j]) (by omega) (by omega), w64 (x := (n : Int) - 1) (by omega) (by omega), w64 (x := p + 1) (by omega) (by omega)]
      unfold spec_l00In.f
      by_cases c : p < g[n][j] ∧ 0 ≤ g[n][j] ∧ g[n][j] ≤ (n : Int) - 1
      · refine Ev_bind1 (if_pos (by omega)) (Ev_pos (by simp; omega) (Ev_as (ih (j + 1) _ (by omega) (by omega) (by omega)) ?_))
        simp [okFrom, c]
      · by_cases c0 : g[n][j] ≥ p + 1
        · refine Ev_bind1 (if_pos c0) (Ev_neg (by simp; omega) (Ev_as (Ev.now _) ?_))
          simp [okFrom, c]
        · refine Ev_bind1 (if_neg c0) (Ev_neg (by simp) (Ev_as (Ev.now _) ?_))
          simp [okFrom, c]
  have outer : ∀ (d n : Nat), n + d = g.length → Ev (fun k => spec_l03Ok.l0 k g (n : Int)) (okRows n (g.drop n) && decide (1 ≤ g.length ∧ g.length ≤ 60)) := by
    intro d
    induction d with
    | zero =>
      intro n h
      obtain rfl : n = g.length := by omega
      refine Ev_round ?_
      simp only [spec_l03Ok.l0]
      refine Ev_neg (by omega) ?_
      unfold spec_l00In.f
      rw [List.drop_length]
      by_cases c0 : (g.length : Int) ≥ 1
      · refine Ev_bind1 (if_pos c0) (Ev_as (Ev.now _) ?_)
        simp only [okRows, Bool.true_and]
        apply decide_eq_decide.2
        omega
      · refine Ev_bind1 (if_neg c0) (Ev_as (Ev.now _) ?_)
        simp [okRows]
        omega
    | succ d ih =>
      intro n h
      have hn : n < g.length := by omega
      refine Ev_round ?_
      simp only [spec_l03Ok.l0]
      refine Ev_pos (by omega) ?_
      rw [List.drop_eq_getElem_cons hn]
      refine Ev_as (inner n hn _ (ih (n + 1) (by omega)) g[n].length 0 (-1) (by omega) (by omega) (by omega)) ?_
      simp [okRows, Bool.and_assoc]
  exact Ev_as (outer g.length 0 (by omega)) (by simp [validG])

theorem asked_ev (g : List (List Int)) (hl : g.length ≤ 1048576) (hr : ∀ mv ∈ g, mv.length ≤ 1048576 ∧ ∀ x ∈ mv, -128 ≤ x ∧ x ≤ 127) (a : Int) : Ev (fun k => spec_l03Asked.f k g a) (if validG g = true then (if (([a] : List Int).any fun p => !(decide (0 ≤ p ∧ p ≤ (g.length : Int) - 1))) = true then 2 else 0) else 1) := by
  unfold spec_l03Asked.f spec_l00In.f
  rw [w64 (by omega) (by omega)]
  refine Ev.bind (spec_ok_ev g hl hr) (Ev_ite (fun _ => ?_) (fun _ => Ev.now _))
  by_cases c : 0 ≤ a ∧ a ≤ (g.length : Int) - 1
  · refine Ev_bind1 (if_pos c.1) (Ev_pos (by simpa using c.2) (Ev_as (Ev.now _) ?_))
    simp [c]
  · have hn : (if (([a] : List Int).any fun p => !(decide (0 ≤ p ∧ p ≤ (g.length : Int) - 1))) = true then (2 : Int) else 0) = 2 := if_pos (by simp only [List.any_cons, List.any_nil, c, decide_false, Bool.not_false, Bool.or_false])
    rw [hn]
    by_cases c0 : a ≥ 0
    · exact Ev_bind1 (if_pos c0) (Ev_neg (by simp; omega) (Ev.now _))
    · exact Ev_bind1 (if_neg c0) (Ev_neg (by simp) (Ev.now _))

theorem lpRow_cons (out : List Int) (y : Int) (t : List Int) (n : Int) : lpRow out (y :: t) n = lpRow out t (if n < rd out y + 1 then rd out y + 1 else n) := rfl
theorem spec_lp_ev (g : List (List Int)) (h : validG g = true) (P : Nat) (hP : P < g.length) : Ev (fun k => spec_LongestPlay.l0 k g (P : Int) [] 0) (rd ((g.take (P + 1)).foldl lpStep []) (P : Int), 0) := by
  have hl := valid_len h
  have outer : ∀ (d n : Nat), n + d = P + 1 → Ev (fun k => spec_LongestPlay.l0 k g (P : Int) ((g.take n).foldl lpStep []) (n : Int)) (rd ((g.take (P + 1)).foldl lpStep []) (P : Int), 0) := by
    intro d
    induction d with
    | zero =>
      intro n hn
      obtain rfl : n = P + 1 := by omega
      refine Ev_round ?_
      simp only [spec_LongestPlay.l0]
      refine Ev_neg (by omega) (Ev_pos (by omega) (Ev_pos ?_ (Ev.now _)))
      rw [lps_len g (P + 1) (by omega)]
      omega
    | succ d ih =>
      intro n hn
      have hlt : n < g.length := by omega
      have nx := ih (n + 1) (by omega)
      rw [lps_take n hlt] at nx
      have ho := lps_len g n (by omega)
      have hr := lps_range h n (by omega)
      have hx := valid_at h n hlt
      have hrl := valid_row_len h n hlt
      generalize hR : rd ((g.take (P + 1)).foldl lpStep []) (P : Int) = R at *
      generalize (g.take n).foldl lpStep [] = out at *
      refine Ev_round ?_
      simp only [spec_LongestPlay.l0]
      refine Ev_pos (by omega) ?_
      have inner : ∀ (e j : Nat) (m : Int), j + e = g[n].length → 0 ≤ m → m ≤ 61 → lpRow out (g[n].drop j) m = lpRow out g[n] 0 → Ev (fun k => spec_LongestPlay.l1 k g (P : Int) out (n : Int) m (j : Int)) (R, 0) := by
        intro e
        induction e with
        | zero =>
          intro j m hj _ _ hm
          obtain rfl : j = g[n].length := by omega
          refine Ev_round ?_
          simp only [spec_LongestPlay.l1]
          rw [rdL2_nat hlt]
          refine Ev_pos (by omega) (Ev_pos (by omega) (Ev_neg (by omega) (Ev_pos (by omega) ?_)))
          rw [w64 (by omega) (by omega)]
          rw [List.drop_length] at hm
          have hm2 : m = lpRow out g[n] 0 := hm
          rw [hm2]
          exact nx
        | succ e ihe =>
          intro j m hj h0 h61 hm
          have hjl : j < g[n].length := by omega
          obtain ⟨a, b⟩ := hx _ (List.getElem_mem hjl)
          have hv := hr _ (rd_mem (xs := out) a (by omega))
          refine Ev_round ?_
          simp only [spec_LongestPlay.l1]
          rw [rdL2_nat hlt, rd_nat hjl, w64 (x := rd out g[n][j] + 1) (by omega) (by omega), w64 (by omega) (by omega)]
          refine Ev_pos (by omega) (Ev_pos (by omega) (Ev_pos (by omega) (Ev_pos (by omega) (Ev_pos a (Ev_pos (by omega) ?_)))))
          rw [List.drop_eq_getElem_cons hjl, lpRow_cons] at hm
          have e1 : spec_l00Max.f m (rd out g[n][j] + 1) = some (if m < rd out g[n][j] + 1 then rd out g[n][j] + 1 else m) := by
            unfold spec_l00Max.f
            by_cases c : m > rd out g[n][j] + 1
            · rw [if_pos c, if_neg (by omega)]
            · rw [if_neg c]
              by_cases c2 : m < rd out g[n][j] + 1
              · rw [if_pos c2]
              · rw [if_neg c2]
                congr 1
                omega
          refine Ev_bind1 e1 ?_
          exact ihe (j + 1) _ (by omega) (by split <;> omega) (by split <;> omega) hm
      exact inner g[n].length 0 0 (by omega) (by omega) (by omega) rfl
  exact outer (P + 1) 0 (by omega)

theorem impl_valid_ev (g : List (List Int)) (hl : g.length ≤ 1048576) (hr : ∀ mv ∈ g, mv.length ≤ 1048576 ∧ ∀ x ∈ mv, -128 ≤ x ∧ x ≤ 127) : Ev (fun k => impl_ValidGame.f k g) (validG g) := by
  -- the moves of one place, from one of them on
  have inner : ∀ (n : Nat) (hn : n < g.length) (r : Bool), Ev (fun k => impl_ValidGame.l0 k g g g.length ((n + 1 : Nat) : Int)) r →
      ∀ (d j : Nat) (p : Int), j + d = g[n].length → (j = 0 → p = -1) → (∀ h : 0 < j, ∀ h' : j - 1 < g[n].length, p = g[n][j - 1]) → -1 ≤ p →
        Ev (fun k => impl_ValidGame.l1 k g (n : Int) g[n] g g.length (n : Int) g[n] g[n].length (j : Int)) (okFrom n p (g[n].drop j) && r) := by
    intro n hn r hnext d
    have hmv := hr _ (List.getElem_mem hn)
    induction d with
    | zero =>
      intro j p h _ _ _
      obtain rfl : j = g[n].length := by omega
      refine Ev_round ?_
      simp only [impl_ValidGame.l1]
      refine Ev_neg (by omega) ?_
      rw [w64 (by omega) (by omega), List.drop_length]
      exact Ev_as hnext (by simp [okFrom])
    | succ d ih =>
      intro j p h h0 h1 hp
      have hj : j < g[n].length := by omega
      have hx := hmv.2 _ (List.getElem_mem hj)
      refine Ev_round ?_
      simp only [impl_ValidGame.l1]
      refine Ev_pos (by omega) (Ev_pos (by omega) (Ev_pos (by omega) ?_))
      rw [List.drop_eq_getElem_cons hj, rd_nat hj, w64 (by omega) (by omega), w64 (x := (n : Int) - 1) (by omega) (by omega)]
      unfold impl_within.f
      by_cases c0 : 0 ≤ g[n][j]
      · by_cases c1 : g[n][j] ≤ (n : Int) - 1
        · refine Ev_bind1 (if_pos c0) (Ev_pos (by simpa using c1) ?_)
          have e0 : wrap64 ((j : Int) + 1) = ((j + 1 : Nat) : Int) := by rw [w64 (by omega) (by omega)]; omega
          rw [e0]
          by_cases cj : (j : Int) > 0
          · have e1 : wrap64 ((j : Int) - 1) = ((j - 1 : Nat) : Int) := by rw [w64 (by omega) (by omega)]; omega
            rw [e1]
            refine Ev_pos cj (Ev_pos (by omega) (Ev_pos (by omega) ?_))
            rw [rd_nat (show j - 1 < g[n].length by omega)]
            have hpp := h1 (by omega) (by omega)
            by_cases c2 : g[n][j] ≤ g[n][j - 1]'(by omega)
            · refine Ev_pos c2 (Ev_as (Ev.now _) ?_)
              have : ¬ (p < g[n][j] ∧ 0 ≤ g[n][j] ∧ g[n][j] ≤ (n : Int) - 1) := by omega
              simp [okFrom, this]
            · refine Ev_neg c2 (Ev_as (ih (j + 1) g[n][j] (by omega) (by omega) (fun _ _ => by simp) (by omega)) ?_)
              have : p < g[n][j] ∧ 0 ≤ g[n][j] ∧ g[n][j] ≤ (n : Int) - 1 := by omega
              simp [okFrom, this]
          · refine Ev_neg cj (Ev_as (ih (j + 1) g[n][j] (by omega) (by omega) (fun _ _ => by simp) (by omega)) ?_)
            have hp0 := h0 (by omega)
            have : p < g[n][j] ∧ 0 ≤ g[n][j] ∧ g[n][j] ≤ (n : Int) - 1 := by omega
            simp [okFrom, this]
        · refine Ev_bind1 (if_pos c0) (Ev_neg (by simpa using c1) (Ev_as (Ev.now _) ?_))
          have : ¬ (p < g[n][j] ∧ 0 ≤ g[n][j] ∧ g[n][j] ≤ (n : Int) - 1) := by omega
          simp [okFrom, this]
      · refine Ev_bind1 (if_neg c0) (Ev_neg (by simp) (Ev_as (Ev.now _) ?_))
        have : ¬ (p < g[n][j] ∧ 0 ≤ g[n][j] ∧ g[n][j] ≤ (n : Int) - 1) := by omega
        simp [okFrom, this]
  have outer : ∀ (d n : Nat), n + d = g.length → Ev (fun k => impl_ValidGame.l0 k g g g.length (n : Int)) (okRows n (g.drop n) && decide (1 ≤ g.length ∧ g.length ≤ 60)) := by
    intro d
    induction d with
    | zero =>
      intro n h
      obtain rfl : n = g.length := by omega
      refine Ev_round ?_
      simp only [impl_ValidGame.l0]
      refine Ev_neg (by omega) ?_
      unfold impl_within.f
      rw [List.drop_length]
      by_cases c0 : 1 ≤ (g.length : Int)
      · refine Ev_bind1 (if_pos c0) (Ev_as (Ev.now _) ?_)
        simp only [okRows, Bool.true_and]
        apply decide_eq_decide.2
        omega
      · refine Ev_bind1 (if_neg c0) (Ev_as (Ev.now _) ?_)
        simp [okRows]
        omega
    | succ d ih =>
      intro n h
      have hn : n < g.length := by omega
      refine Ev_round ?_
      simp only [impl_ValidGame.l0]
      refine Ev_pos (by omega) (Ev_pos (by omega) (Ev_pos (by omega) ?_))
      rw [rdL2_nat hn, List.drop_eq_getElem_cons hn]
      refine Ev_as (inner n hn _ (ih (n + 1) (by omega)) g[n].length 0 (-1) (by omega) (fun _ => rfl) (fun h _ => by omega) (by omega)) ?_
      simp [okRows, Bool.and_assoc]
  exact Ev_as (outer g.length 0 (by omega)) (by simp [validG])

theorem okPlace_eq (G : Nat) (p : Int) (hG : G ≤ 1048576) : okPlace G p = decide (0 ≤ p ∧ p ≤ (G : Int) - 1) := by
  unfold okPlace
  rw [w64 (by omega) (by omega), Bool.decide_and]
/-- What placeCode answers. -/
def placeR (g : List (List Int)) (l : List Int) : Int := if validG g = true then (if (l.any fun p => !(decide (0 ≤ p ∧ p ≤ (g.length : Int) - 1))) = true then 2 else 0) else 1
theorem place_ev (g : List (List Int)) (hl : g.length ≤ 1048576) (hr : ∀ mv ∈ g, mv.length ≤ 1048576 ∧ ∀ x ∈ mv, -128 ≤ x ∧ x ≤ 127) (l : List Int) : Ev (fun k => impl_placeCode.f k g l) (placeR g l) := by
  unfold impl_placeCode.f placeR
  simp only [okPlace_eq _ _ hl]
  refine Ev.bind (impl_valid_ev g hl hr) ?_
  exact Ev_ite (fun _ => Ev_ite (fun _ => Ev.now _) (fun _ => Ev.now _)) (fun _ => Ev.now _)
theorem placeR_zero {g : List (List Int)} {l : List Int} (h : placeR g l = 0) : validG g = true ∧ ∀ p ∈ l, 0 ≤ p ∧ p ≤ (g.length : Int) - 1 := by
  unfold placeR at h
  by_cases c : validG g = true
  · rw [if_pos c] at h
    refine ⟨c, fun p hp => ?_⟩
    apply Classical.byContradiction
    intro hn
    rw [if_pos (List.any_eq_true.2 ⟨p, hp, by simp only [hn, decide_false, Bool.not_false]⟩)] at h
    exact absurd h (by decide)
  · rw [if_neg c] at h
    exact absurd h (by decide)

theorem impl_lp_ev (g : List (List Int)) (h : validG g = true) (P : Nat) (hP : P < g.length) : Ev (fun k => impl_LongestPlay.l0 k (P : Int) [] (g.take (P + 1)) ((g.take (P + 1)).length : Int) 0) (rd ((g.take (P + 1)).foldl lpStep []) (P : Int), 0) := by
  have hl := valid_len h
  have hG : (g.take (P + 1)).length = P + 1 := by rw [List.length_take]; omega
  rw [hG]
  have outer : ∀ (d n : Nat), n + d = P + 1 → Ev (fun k => impl_LongestPlay.l0 k (P : Int) ((g.take n).foldl lpStep []) (g.take (P + 1)) ((P + 1 : Nat) : Int) (n : Int)) (rd ((g.take (P + 1)).foldl lpStep []) (P : Int), 0) := by
    intro d
    induction d with
    | zero =>
      intro n hn
      obtain rfl : n = P + 1 := by omega
      refine Ev_round ?_
      simp only [impl_LongestPlay.l0]
      refine Ev_neg (by omega) (Ev_pos (by omega) (Ev_pos ?_ (Ev.now _)))
      rw [lps_len g (P + 1) (by omega)]
      omega
    | succ d ih =>
      intro n hn
      have hlt : n < g.length := by omega
      have hlt2 : n < (g.take (P + 1)).length := by omega
      have nx := ih (n + 1) (by omega)
      rw [lps_take n hlt] at nx
      have ho := lps_len g n (by omega)
      have hr := lps_range h n (by omega)
      have hx := valid_at h n hlt
      have hrl := valid_row_len h n hlt
      have hrow : (g.take (P + 1))[n] = g[n] := List.getElem_take
      generalize hR : rd ((g.take (P + 1)).foldl lpStep []) (P : Int) = R at *
      generalize (g.take n).foldl lpStep [] = out at *
      refine Ev_round ?_
      simp only [impl_LongestPlay.l0]
      refine Ev_pos (by omega) (Ev_pos (by omega) (Ev_pos (by omega) ?_))
      rw [rdL2_nat hlt2, hrow]
      have inner : ∀ (e j : Nat) (m : Int), j + e = g[n].length → 0 ≤ m → m ≤ 61 → lpRow out (g[n].drop j) m = lpRow out g[n] 0 → Ev (fun k => impl_LongestPlay.l1 k (P : Int) out m (g.take (P + 1)) ((P + 1 : Nat) : Int) (n : Int) g[n] g[n].length (j : Int)) (R, 0) := by
        intro e
        induction e with
        | zero =>
          intro j m hj _ _ hm
          obtain rfl : j = g[n].length := by omega
          refine Ev_round ?_
          simp only [impl_LongestPlay.l1]
          refine Ev_neg (by omega) (Ev_pos (by omega) ?_)
          rw [w64 (by omega) (by omega)]
          rw [List.drop_length] at hm
          have hm2 : m = lpRow out g[n] 0 := hm
          rw [hm2]
          exact nx
        | succ e ihe =>
          intro j m hj h0 h61 hm
          have hjl : j < g[n].length := by omega
          obtain ⟨a, b⟩ := hx _ (List.getElem_mem hjl)
          have hv := hr _ (rd_mem (xs := out) a (by omega))
          refine Ev_round ?_
          simp only [impl_LongestPlay.l1]
          rw [rd_nat hjl, w64 (x := rd out g[n][j] + 1) (by omega) (by omega), w64 (by omega) (by omega)]
          refine Ev_pos (by omega) (Ev_pos (by omega) (Ev_pos (by omega) (Ev_pos a (Ev_pos (by omega) ?_))))
          rw [List.drop_eq_getElem_cons hjl, lpRow_cons] at hm
          exact ihe (j + 1) _ (by omega) (by unfold mx; split <;> omega) (by unfold mx; split <;> omega) hm
      exact inner g[n].length 0 0 (by omega) (by omega) (by omega) rfl
  exact outer (P + 1) 0 (by omega)

theorem both (g : List (List Int)) (hl : g.length ≤ 1048576) (hr : ∀ mv ∈ g, mv.length ≤ 1048576 ∧ ∀ x ∈ mv, -128 ≤ x ∧ x ≤ 127) (a : Int) :
    ∃ r, Ev (fun k => spec_LongestPlay.f k g a) r ∧ Ev (fun k => impl_LongestPlay.f k g a) r := by
  have hs := asked_ev g hl hr a
  have hi := place_ev g hl hr [a]
  change Ev (fun k => spec_l03Asked.f k g a) (placeR g [a]) at hs
  by_cases c : placeR g [a] = 0
  · obtain ⟨hv, hp⟩ := placeR_zero c
    have ha := hp a (by simp)
    obtain ⟨P, rfl⟩ := Int.eq_ofNat_of_zero_le ha.1
    have s := spec_lp_ev g hv P (by omega)
    have i := impl_lp_ev g hv P (by omega)
    refine ⟨_, Ev.bind hs (Ev_pos c s), Ev.bind hi (Ev_pos c ?_)⟩
    have e : wrap64 ((P : Int) + 1) = ((P + 1 : Nat) : Int) := by rw [w64 (by omega) (by omega)]; omega
    rw [e]
    refine Ev_pos (by omega) (Ev_pos (by omega) ?_)
    exact Ev_bind1 rfl i
  · exact ⟨_, Ev.bind hs (Ev_neg c (Ev.now _)), Ev.bind hi (Ev_neg c (Ev.now _))⟩
theorem FnExactLongestPlay (g : List (List Int)) (a : Int) (hg : g.length ≤ maxLen) (hr : ∀ mv ∈ g, mv.length ≤ maxLen ∧ ∀ x ∈ mv, (Lit.int .i8 x).wf = true) (wa : (Lit.int .i64 a).wf = true) : ∃ k, laws_FnExactLongestPlay.f k g a = some true := by
  refine Ev.rounds (r := true) ?_
  obtain ⟨r, h1, _, h3⟩ := szGame_ev g hg (fun mv hm => (hr mv hm).1) 1048576 ⟨by omega, by omega⟩
  refine Ev.bind h1 ?_
  by_cases c : r < 0
  · exact Ev_pos c (Ev.now _)
  · obtain ⟨hl1, hl2⟩ := h3 (by omega)
    have hv : ∀ mv ∈ g, mv.length ≤ 1048576 ∧ ∀ x ∈ mv, -128 ≤ x ∧ x ≤ 127 := fun mv hm => ⟨hl2 mv hm, fun x hx => wf_i8 ((hr mv hm).2 x hx)⟩
    obtain ⟨b, b1, b2⟩ := both g hl1 hv a
    refine Ev_neg c (Ev.bind (toGame_ev g hl1 hl2) (Ev.bind b1 (Ev.bind (toGame_ev g hl1 hl2) (Ev.bind b2 (Ev_pos rfl (Ev_round (Ev_neg (by simp) ?_)))))))
    exact Ev.bind (toGame_ev g hl1 hl2) (Ev.bind (eqGame_ev g g hl1 hl2) (Ev_pos (by simp) (Ev.now _)))

end Go.Proofs.Ytbhjkaiiebpopaa.Pure
