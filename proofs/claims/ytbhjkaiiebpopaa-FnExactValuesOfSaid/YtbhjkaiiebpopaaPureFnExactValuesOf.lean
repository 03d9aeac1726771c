/- FnExactValuesOf: the printed pure statement holds: at every input the law's function answers true; no condition but the bounds of its kinds. -/
import Derived.Test.YtbhjkaiiebpopaaQFnExactValuesOfx
import Derived.Test.YtbhjkaiiebpopaaLib
import Derived.Test.YtbhjkaiiebpopaaWKept
import Derived.Test.YtbhjkaiiebpopaaWApart
import Derived.Test.YtbhjkaiiebpopaaLib3
set_option linter.unusedVariables false
set_option linter.unusedSimpArgs false
namespace Go.Proofs.Ytbhjkaiiebpopaa.Pure
open Go.RowKit Go.Proofs.Ytbhjkaiiebpopaa.QFnExactValuesOf Go.Proofs.YtbhjkaiiebpopaaW.PrintWords Go.Proofs.YtbhjkaiiebpopaaW.PrintLast Go.Proofs.Ytbhjkaiiebpopaa.Lib

theorem rdL2_nat {g : List (List Int)} {n : Nat} (h : n < g.length) : rd_L1 g (n : Int) = g[n] := by simp [rd_L1, List.getD_eq_getElem?_getD, List.getElem?_eq_getElem h]

theorem szInt8S_eq (xs : List Int) (a : Int) (hx : xs.length ≤ maxLen) (ha : 0 ≤ a ∧ a ≤ 1048576) : ∃ r, laws_szInt8S.f xs a = some r ∧ r ≤ 1048576 ∧ (0 ≤ r → xs.length ≤ 1048576) := by
  unfold maxLen at hx
  unfold laws_szInt8S.f
  rw [w64 (by omega) (by omega)]
  by_cases c : a - (xs.length : Int) < 0
  · exact ⟨-1, if_pos c, by omega, by omega⟩
  · exact ⟨_, if_neg c, by omega, by omega⟩

theorem szGame_ev (g : List (List Int)) (hg : g.length ≤ maxLen) (hr : ∀ mv ∈ g, mv.length ≤ maxLen) (a : Int) (ha : 0 ≤ a ∧ a ≤ 1048576) :
    ∃ r, Ev (fun k => laws_szGame.f k g a) r ∧ r ≤ 1048576 ∧ (0 ≤ r → g.length ≤ 1048576 ∧ ∀ mv ∈ g, mv.length ≤ 1048576) := by
  unfold maxLen at hg
  unfold laws_szGame.f
  rw [w64 (by omega) (by omega)]
  by_cases c : a - (g.length : Int) < 0
  · exact ⟨-1, Ev_pos c (Ev.now _), by omega, by omega⟩
  · have main : ∀ (d n : Nat) (b : Int), n + d = g.length → 0 ≤ b → b ≤ 1048576 → ∃ r, Ev (fun k => laws_szGame.l0 k g b (n : Int)) r ∧ r ≤ 1048576 ∧ (0 ≤ r → ∀ mv ∈ g.drop n, mv.length ≤ 1048576) := by
      intro d
      induction d with
      | zero =>
        intro n b h h0 h1
        obtain rfl : n = g.length := by omega
        refine ⟨b, Ev_round ?_, h1, by simp⟩
        simp only [laws_szGame.l0]
        exact Ev_neg (by omega) (Ev.now _)
      | succ d ih =>
        intro n b h h0 h1
        have hn : n < g.length := by omega
        obtain ⟨r, hr1, hr2, hr3⟩ := szInt8S_eq g[n] b (hr _ (List.getElem_mem hn)) ⟨h0, h1⟩
        by_cases cr : r < 0
        · refine ⟨-1, Ev_round ?_, by omega, by omega⟩
          simp only [laws_szGame.l0]
          refine Ev_pos (by omega) (Ev_pos (by omega) ?_)
          rw [rdL2_nat hn]
          exact Ev_bind1 hr1 (Ev_pos cr (Ev.now _))
        · obtain ⟨q, hq1, hq2, hq3⟩ := ih (n + 1) r (by omega) (by omega) hr2
          refine ⟨q, Ev_round ?_, hq2, fun hq => ?_⟩
          · simp only [laws_szGame.l0]
            refine Ev_pos (by omega) (Ev_pos (by omega) ?_)
            rw [rdL2_nat hn, w64 (by omega) (by omega)]
            exact Ev_bind1 hr1 (Ev_neg cr hq1)
          · rw [List.drop_eq_getElem_cons hn]
            intro mv hmv
            rcases List.mem_cons.1 hmv with rfl | hmv
            · exact hr3 (by omega)
            · exact hq3 hq mv hmv
    obtain ⟨r, h1, h2, h3⟩ := main g.length 0 (a - g.length) (by omega) (by omega) (by omega)
    exact ⟨r, Ev_neg c h1, h2, fun h => ⟨by omega, by simpa using h3 h⟩⟩

theorem toInt8S_ev (xs : List Int) (hn : xs.length ≤ 1048576) : Ev (fun k => laws_toInt8S.f k xs) xs :=
  copy_any (L := laws_toInt8S.l0) 281474976710656 (fun _ _ _ _ => rfl) xs (by omega) (by omega)

theorem toGame_ev (g : List (List Int)) (hg : g.length ≤ 1048576) (hr : ∀ mv ∈ g, mv.length ≤ 1048576) : Ev (fun k => laws_toGame.f k g) g := by
  have main : ∀ (d n : Nat) (ys : List (List Int)), n + d = g.length → ys.length = g.length → ys.take n = g.take n → Ev (fun k => laws_toGame.l0 k g ys (n : Int)) g := by
    intro d
    induction d with
    | zero =>
      intro n ys h1 h2 h3
      refine Ev_round ?_
      simp only [laws_toGame.l0]
      refine Ev_neg (by omega) (Ev_as (Ev.now _) ?_)
      rw [List.take_of_length_le (by omega), List.take_of_length_le (by omega)] at h3
      exact h3
    | succ d ih =>
      intro n ys h1 h2 h3
      have hn : n < g.length := by omega
      refine Ev_round ?_
      simp only [laws_toGame.l0]
      refine Ev_pos (by omega) (Ev_pos (by omega) ?_)
      rw [rdL2_nat hn]
      refine Ev.bind (toInt8S_ev _ (hr _ (List.getElem_mem hn))) (Ev_pos (by omega) ?_)
      rw [w64 (by omega) (by omega), Int.toNat_natCast]
      refine ih (n + 1) (ys.set n g[n]) (by omega) (by simpa using h2) ?_
      rw [List.take_succ_eq_append_getElem (by simp; omega), List.take_succ_eq_append_getElem hn, List.take_set_of_le (by omega), h3]
      simp
  refine Ev_pos (by omega) (Ev_pos (by omega) (main g.length 0 _ (by omega) (by simp) (by simp)))

theorem eqInt8S_ev (xs ys : List Int) (hn : xs.length ≤ 140737488355328) : Ev (fun k => laws_eqInt8S.f k xs ys) (decide (xs = ys)) :=
  eq_all (L := laws_eqInt8S.l0) (fun _ _ _ _ => rfl) xs ys (by omega)

theorem eqGame_ev (g h : List (List Int)) (hg : g.length ≤ 1048576) (hr : ∀ mv ∈ g, mv.length ≤ 1048576) : Ev (fun k => laws_eqGame.f k g h) (decide (g = h)) := by
  by_cases hl : g.length = h.length
  · have main : ∀ (d n : Nat), n + d = g.length → g.take n = h.take n → Ev (fun k => laws_eqGame.l0 k g h (n : Int)) (decide (g = h)) := by
      intro d
      induction d with
      | zero =>
        intro n h1 h3
        refine Ev_round ?_
        simp only [laws_eqGame.l0]
        refine Ev_neg (by omega) (Ev_as (Ev.now _) ?_)
        rw [List.take_of_length_le (by omega), List.take_of_length_le (by omega)] at h3
        simp [h3]
      | succ d ih =>
        intro n h1 h3
        have hn : n < g.length := by omega
        have hm : n < h.length := by omega
        refine Ev_round ?_
        simp only [laws_eqGame.l0]
        refine Ev_pos (by omega) (Ev_pos (by omega) (Ev_pos (by omega) ?_))
        rw [rdL2_nat hn, rdL2_nat hm, w64 (by omega) (by omega)]
        refine Ev.bind (eqInt8S_ev _ _ (by have := hr _ (List.getElem_mem hn); omega)) ?_
        by_cases e : g[n] = h[n]
        · refine Ev_pos (by simp [e]) (ih (n + 1) (by omega) ?_)
          rw [List.take_succ_eq_append_getElem hn, List.take_succ_eq_append_getElem hm, h3, e]
        · refine Ev_neg (by simp [e]) (Ev_as (Ev.now _) ?_)
          have : g ≠ h := fun x => e (by subst x; rfl)
          simp [this]
    exact Ev_pos (by omega) (main g.length 0 (by omega) (by simp))
  · refine Ev_neg (by omega) (Ev_as (Ev.now _) ?_)
    have : g ≠ h := fun e => hl (by rw [e])
    simp [this]

theorem markInt8S_ev (xs : List Int) (a : Int) (ha : 0 ≤ a) (hb : a + (xs.length : Int) ≤ 9223372036854775806) : Ev (fun k => laws_markInt8S.f k xs a) (a + (xs.length : Int), markG .i8 a xs.length) := by
  have h := mark_loop (L := laws_markInt8S.l0) (K := .i8) (fun _ _ _ _ => rfl) a xs.length ha hb xs.length 0 xs (by omega) rfl (by simp)
  have e : a + ((0 : Nat) : Int) = a := by omega
  rw [e] at h
  exact h

theorem eqNimberS_ev (xs ys : List Int) (hn : xs.length ≤ 140737488355328) : Ev (fun k => laws_eqNimberS.f k xs ys) (decide (xs = ys)) :=
  eq_all (L := laws_eqNimberS.l0) (fun _ _ _ _ => rfl) xs ys (by omega)

theorem markNimberS_ev (xs : List Int) (hn : xs.length ≤ 140737488355328) : Ev (fun k => laws_markNimberS.f k xs 1) (1 + (xs.length : Int), markG .u16 1 xs.length) :=
  mark_loop (L := laws_markNimberS.l0) (fun _ _ _ _ => rfl) 1 xs.length (by omega) (by omega) xs.length 0 xs (by omega) rfl (by simp)

theorem heldNimberS_ev (N : Nat) (hn : N ≤ 140737488355328) : Ev (fun k => laws_heldNimberS.f k (markG .u16 1 N) 1) (1 + (N : Int)) :=
  held_loop (L := laws_heldNimberS.l0) (fun _ _ _ _ => rfl) 1 N (by omega) (by omega) N 0 (by omega)

theorem spec_ok_ev (g : List (List Int)) (hl : g.length ≤ 1048576) (hr : ∀ mv ∈ g, mv.length ≤ 1048576 ∧ ∀ x ∈ mv, -128 ≤ x ∧ x ≤ 127) : Ev (fun k => spec_l03Ok.f k g) (validG g) := by
  have inner : ∀ (n : Nat) (hn : n < g.length) (r : Bool), Ev (fun k => spec_l03Ok.l0 k g ((n + 1 : Nat) : Int)) r →
      ∀ (d j : Nat) (p : Int), j + d = g[n].length → -1 ≤ p → p ≤ 127 → Ev (fun k => spec_l03Ok.l1 k g (n : Int) p (j : Int)) (okFrom n p (g[n].drop j) && r) := by
    intro n hn r hnext d
    have hmv := hr _ (List.getElem_mem hn)
    induction d with
    | zero =>
      intro j p h hp hp1
      obtain rfl : j = g[n].length := by omega
      refine Ev_round ?_
      simp only [spec_l03Ok.l1]
      rw [rdL2_nat hn]
      refine Ev_pos (by omega) (Ev_pos (by omega) (Ev_neg (by omega) ?_))
      rw [w64 (by omega) (by omega), List.drop_length]
      exact Ev_as hnext (by simp [okFrom])
    | succ d ih =>
      intro j p h hp hp1
      have hj : j < g[n].length := by omega
      have hx := hmv.2 _ (List.getElem_mem hj)
      refine Ev_round ?_
      simp only [spec_l03Ok.l1]
      rw [rdL2_nat hn]
      refine Ev_pos (by omega) (Ev_pos (by omega) (Ev_pos (by omega) (Ev_pos (by omega) ?_)))
      have e0 : wrap64 ((j : Int) + 1) = ((j + 1 : Nat) : Int) := by rw [w64 (by omega) (by omega)]; omega
      rw [List.drop_eq_getElem_cons hj, rd_nat hj, e0, w64 (x := g[n][j]) (by omega) (by omega), w64 (x := (n : Int) - 1) (by omega) (by omega), w64 (x := p + 1) (by omega) (by omega)]
      unfold spec_l00In.f
      by_cases c : p < g[n][j] ∧ 0 ≤ g[n][j] ∧ g[n][j] ≤ (n : Int) - 1
      · refine Ev_bind1 (if_pos (by omega)) (Ev_pos (by simp; omega) (Ev_as (ih (j + 1) _ (by omega) (by omega) (by omega)) ?_))
        simp [okFrom, c]
      · by_cases c0 : g[n][j] ≥ p + 1
        · refine Ev_bind1 (if_pos c0) (Ev_neg (by simp; omega) (Ev_as (Ev.now _) ?_))
          simp [okFrom, c]
        · refine Ev_bind1 (if_neg c0) (Ev_neg (by simp) (Ev_as (Ev.now _) ?_))
          simp [okFrom, c]
  have outer : ∀ (d n : Nat), n + d = g.length → Ev (fun k => spec_l03Ok.l0 k g (n : Int)) (okRows n (g.drop n) && decide (1 ≤ g.length ∧ g.length ≤ 60)) := by
    intro d
    induction d with
    | zero =>
      intro n h
      obtain rfl : n = g.length := by omega
      refine Ev_round ?_
      simp only [spec_l03Ok.l0]
      refine Ev_neg (by omega) ?_
      unfold spec_l00In.f
      rw [List.drop_length]
      by_cases c0 : (g.length : Int) ≥ 1
      · refine Ev_bind1 (if_pos c0) (Ev_as (Ev.now _) ?_)
        simp only [okRows, Bool.true_and]
        apply decide_eq_decide.2
        omega
      · refine Ev_bind1 (if_neg c0) (Ev_as (Ev.now _) ?_)
        simp [okRows]
        omega
    | succ d ih =>
      intro n h
      have hn : n < g.length := by omega
      refine Ev_round ?_
      simp only [spec_l03Ok.l0]
      refine Ev_pos (by omega) ?_
      rw [List.drop_eq_getElem_cons hn]
      refine Ev_as (inner n hn _ (ih (n + 1) (by omega)) g[n].length 0 (-1) (by omega) (by omega) (by omega)) ?_
      simp [okRows, Bool.and_assoc]
  exact Ev_as (outer g.length 0 (by omega)) (by simp [validG])

theorem least_ev (l : List Int) (hl : l.length ≤ 65535) (hr : ∀ x ∈ l, 0 ≤ x ∧ x ≤ 65535) : Ev (fun k => spec_l03Least.f k l) ((mexN l : Nat) : Int) := by
  have hm := mexN_is l
  have hle := mexN_le l
  have last : ∀ (d n : Nat), n + d = mexN l → Ev (fun k => spec_l03Least.l1 k (flags (l.length + 1) l) (n : Int)) ((mexN l : Nat) : Int) := by
    intro d
    induction d with
    | zero =>
      intro n h
      obtain rfl : n = mexN l := by omega
      refine Ev_round ?_
      simp only [spec_l03Least.l1]
      refine Ev_pos (by omega) (Ev_pos (by rw [flags_length]; omega) (Ev_neg ?_ ?_))
      · rw [rdOf, List.getD_eq_getElem?_getD, List.getElem?_eq_getElem (by rw [Int.toNat_natCast, flags_length]; omega), Option.getD_some, flags_get]
        simp [hm.1]
      · rw [wu16 (by omega) (by omega)]
        exact Ev.now _
    | succ d ih =>
      intro n h
      refine Ev_round ?_
      simp only [spec_l03Least.l1]
      refine Ev_pos (by omega) (Ev_pos (by rw [flags_length]; omega) (Ev_pos ?_ ?_))
      · rw [rdOf, List.getD_eq_getElem?_getD, List.getElem?_eq_getElem (by rw [Int.toNat_natCast, flags_length]; omega), Option.getD_some, flags_get]
        simp [hm.2 n (by omega)]
      · rw [w64 (by omega) (by omega)]
        exact ih (n + 1) (by omega)
  have main : ∀ (d n : Nat), n + d = l.length → Ev (fun k => spec_l03Least.l0 k l (flags (l.length + 1) (l.take n)) (n : Int)) ((mexN l : Nat) : Int) := by
    intro d
    induction d with
    | zero =>
      intro n h
      obtain rfl : n = l.length := by omega
      refine Ev_round ?_
      simp only [spec_l03Least.l0]
      refine Ev_neg (by omega) ?_
      rw [List.take_length]
      exact last (mexN l) 0 (by omega)
    | succ d ih =>
      intro n h
      have hn : n < l.length := by omega
      have hx := hr _ (List.getElem_mem hn)
      have ht : l.take (n + 1) = l.take n ++ [l[n]] := by rw [List.take_succ_eq_append_getElem hn]
      refine Ev_round ?_
      simp only [spec_l03Least.l0]
      refine Ev_pos (by omega) (Ev_pos (by omega) ?_)
      rw [rd_nat hn, w64 (by omega) (by omega), w64 (by omega) (by omega), flags_length]
      have nx := ih (n + 1) (by omega)
      rw [ht] at nx
      by_cases c : l[n] < ((l.length + 1 : Nat) : Int)
      · refine Ev_pos c (Ev_pos (by omega) (Ev_pos c ?_))
        rw [flags_set _ _ _ (by omega), Int.toNat_of_nonneg hx.1]
        exact nx
      · refine Ev_neg c ?_
        rw [flags_out _ _ _ (by omega)] at nx
        exact nx
  unfold spec_l03Least.f
  rw [w64 (by omega) (by omega)]
  refine Ev_pos (by omega) (Ev_pos (by omega) ?_)
  have := main l.length 0 (by omega)
  rw [List.take_zero, flags_nil] at this
  exact this

theorem spec_values_ev (g : List (List Int)) (h : validG g = true) : Ev (fun k => spec_l03Values.f k g) (GV g) := by
  have hl := valid_len h
  have outer : ∀ (d n : Nat), n + d = g.length → Ev (fun k => spec_l03Values.l0 k g ((g.take n).foldl gvStep []) (n : Int)) (GV g) := by
    intro d
    induction d with
    | zero =>
      intro n hn
      obtain rfl : n = g.length := by omega
      refine Ev_round ?_
      simp only [spec_l03Values.l0]
      refine Ev_neg (by omega) (Ev_as (Ev.now _) ?_)
      rw [List.take_length]
      rfl
    | succ d ih =>
      intro n hn
      have hlt : n < g.length := by omega
      have nx := ih (n + 1) (by omega)
      rw [gvs_take n hlt] at nx
      have ho := gvs_len g n (by omega)
      have hr := gvs_range h n (by omega)
      generalize (g.take n).foldl gvStep [] = out at *
      have hx := valid_at h n hlt
      have hrl := valid_row_len h n hlt
      refine Ev_round ?_
      simp only [spec_l03Values.l0]
      refine Ev_pos (by omega) ?_
      have inner : ∀ (e j : Nat), j + e = g[n].length → Ev (fun k => spec_l03Values.l1 k g out (n : Int) ((g[n].take j).map (rd out)) (j : Int)) (GV g) := by
        intro e
        induction e with
        | zero =>
          intro j hj
          obtain rfl : j = g[n].length := by omega
          refine Ev_round ?_
          simp only [spec_l03Values.l1]
          rw [rdL2_nat hlt, List.take_length]
          refine Ev_pos (by omega) (Ev_pos (by omega) (Ev_neg (by omega) (Ev.bind (least_ev _ (by simp; omega) (fun x hx' => ?_)) (Ev_pos (by omega) ?_))))
          · obtain ⟨y, hy, rfl⟩ := List.mem_map.1 hx'
            obtain ⟨a, b⟩ := hx y hy
            have := hr _ (rd_mem (xs := out) a (by omega))
            omega
          · rw [w64 (by omega) (by omega)]
            exact nx
        | succ e ihe =>
          intro j hj
          have hjl : j < g[n].length := by omega
          obtain ⟨a, b⟩ := hx _ (List.getElem_mem hjl)
          refine Ev_round ?_
          simp only [spec_l03Values.l1]
          rw [rdL2_nat hlt, rd_nat hjl]
          refine Ev_pos (by omega) (Ev_pos (by omega) (Ev_pos (by omega) (Ev_pos (by omega) (Ev_pos a (Ev_pos (by omega) (Ev_pos (by simp; omega) ?_))))))
          rw [w64 (by omega) (by omega)]
          have := ihe (j + 1) (by omega)
          rw [List.take_succ_eq_append_getElem hjl, List.map_append] at this
          exact this
      exact inner g[n].length 0 (by omega)
  exact outer g.length 0 (by omega)

theorem impl_valid_ev (g : List (List Int)) (hl : g.length ≤ 1048576) (hr : ∀ mv ∈ g, mv.length ≤ 1048576 ∧ ∀ x ∈ mv, -128 ≤ x ∧ x ≤ 127) : Ev (fun k => impl_ValidGame.f k g) (validG g) := by
  -- the moves of one place, from one of them on
  have inner : ∀ (n : Nat) (hn : n < g.length) (r : Bool), Ev (fun k => impl_ValidGame.l0 k g g g.length ((n + 1 : Nat) : Int)) r →
      ∀ (d j : Nat) (p : Int), j + d = g[n].length → (j = 0 → p = -1) → (∀ h : 0 < j, ∀ h' : j - 1 < g[n].length, p = g[n][j - 1]) → -1 ≤ p →
        Ev (fun k => impl_ValidGame.l1 k g (n : Int) g[n] g g.length (n : Int) g[n] g[n].length (j : Int)) (okFrom n p (g[n].drop j) && r) := by
    intro n hn r hnext d
    have hmv := hr _ (List.getElem_mem hn)
    induction d with
    | zero =>
      intro j p h _ _ _
      obtain rfl : j = g[n].length := by omega
      refine Ev_round ?_
      simp only [impl_ValidGame.l1]
      refine Ev_neg (by omega) ?_
      rw [w64 (by omega) (by omega), List.drop_length]
      exact Ev_as hnext (by simp [okFrom])
    | succ d ih =>
      intro j p h h0 h1 hp
      have hj : j < g[n].length := by omega
      have hx := hmv.2 _ (List.getElem_mem hj)
      refine Ev_round ?_
      simp only [impl_ValidGame.l1]
      refine Ev_pos (by omega) (Ev_pos (by omega) (Ev_pos (by omega) ?_))
      rw [List.drop_eq_getElem_cons hj, rd_nat hj, w64 (by omega) (by omega), w64 (x := (n : Int) - 1) (by omega) (by omega)]
      unfold impl_within.f
      by_cases c0 : 0 ≤ g[n][j]
      · by_cases c1 : g[n][j] ≤ (n : Int) - 1
        · refine Ev_bind1 (if_pos c0) (Ev_pos (by simpa using c1) ?_)
          have e0 : wrap64 ((j : Int) + 1) = ((j + 1 : Nat) : Int) := by rw [w64 (by omega) (by omega)]; omega
          rw [e0]
          by_cases cj : (j : Int) > 0
          · have e1 : wrap64 ((j : Int) - 1) = ((j - 1 : Nat) : Int) := by rw [w64 (by omega) (by omega)]; omega
            rw [e1]
            refine Ev_pos cj (Ev_pos (by omega) (Ev_pos (by omega) ?_))
            rw [rd_nat (show j - 1 < g[n].length by omega)]
            have hpp := h1 (by omega) (by omega)
            by_cases c2 : g[n][j] ≤ g[n][j - 1]'(by omega)
            · refine Ev_pos c2 (Ev_as (Ev.now _) ?_)
              have : ¬ (p < g[n][j] ∧ 0 ≤ g[n][j] ∧ g[n][j] ≤ (n : Int) - 1) := by omega
              simp [okFrom, this]
            · refine Ev_neg c2 (Ev_as (ih (j + 1) g[n][j] (by omega) (by omega) (fun _ _ => by simp) (by omega)) ?_)
              have : p < g[n][j] ∧ 0 ≤ g[n][j] ∧ g[n][j] ≤ (n : Int) - 1 := by omega
              simp [okFrom, this]
          · refine Ev_neg cj (Ev_as (ih (j + 1) g[n][j] (by omega) (by omega) (fun _ _ => by simp) (by omega)) ?_)
            have hp0 := h0 (by omega)
            have : p < g[n][j] ∧ 0 ≤ g[n][j] ∧ g[n][j] ≤ (n : Int) - 1 := by omega
            simp [okFrom, this]
        · refine Ev_bind1 (if_pos c0) (Ev_neg (by simpa using c1) (Ev_as (Ev.now _) ?_))
          have : ¬ (p < g[n][j] ∧ 0 ≤ g[n][j] ∧ g[n][j] ≤ (n : Int) - 1) := by omega
          simp [okFrom, this]
      · refine Ev_bind1 (if_neg c0) (Ev_neg (by simp) (Ev_as (Ev.now _) ?_))
        have : ¬ (p < g[n][j] ∧ 0 ≤ g[n][j] ∧ g[n][j] ≤ (n : Int) - 1) := by omega
        simp [okFrom, this]
  have outer : ∀ (d n : Nat), n + d = g.length → Ev (fun k => impl_ValidGame.l0 k g g g.length (n : Int)) (okRows n (g.drop n) && decide (1 ≤ g.length ∧ g.length ≤ 60)) := by
    intro d
    induction d with
    | zero =>
      intro n h
      obtain rfl : n = g.length := by omega
      refine Ev_round ?_
      simp only [impl_ValidGame.l0]
      refine Ev_neg (by omega) ?_
      unfold impl_within.f
      rw [List.drop_length]
      by_cases c0 : 1 ≤ (g.length : Int)
      · refine Ev_bind1 (if_pos c0) (Ev_as (Ev.now _) ?_)
        simp only [okRows, Bool.true_and]
        apply decide_eq_decide.2
        omega
      · refine Ev_bind1 (if_neg c0) (Ev_as (Ev.now _) ?_)
        simp [okRows]
        omega
    | succ d ih =>
      intro n h
      have hn : n < g.length := by omega
      refine Ev_round ?_
      simp only [impl_ValidGame.l0]
      refine Ev_pos (by omega) (Ev_pos (by omega) (Ev_pos (by omega) ?_))
      rw [rdL2_nat hn, List.drop_eq_getElem_cons hn]
      refine Ev_as (inner n hn _ (ih (n + 1) (by omega)) g[n].length 0 (-1) (by omega) (fun _ => rfl) (fun h _ => by omega) (by omega)) ?_
      simp [okRows, Bool.and_assoc]
  exact Ev_as (outer g.length 0 (by omega)) (by simp [validG])

theorem index_false_ev (fl : List Bool) (n : Nat) (hn : n < fl.length) (hl : fl.length ≤ 9223372036854775806) (h1 : fl[n] = false) (h2 : ∀ m (hm : m < n), fl[m] = true) :
    Ev (fun k => slices_Index_bool_bool.f k fl false) (n : Int) := by
  have main : ∀ (d m : Nat), m + d = n → Ev (fun k => slices_Index_bool_bool.l0 k fl false fl.length (m : Int)) (n : Int) := by
    intro d
    induction d with
    | zero =>
      intro m hm
      obtain rfl : m = n := by omega
      refine Ev_round ?_
      simp only [slices_Index_bool_bool.l0]
      refine Ev_pos (by omega) (Ev_pos (by omega) (Ev_pos (by omega) (Ev_pos ?_ (Ev.now _))))
      simp [rdOf, List.getD_eq_getElem?_getD, List.getElem?_eq_getElem hn, h1]
    | succ d ih =>
      intro m hm
      refine Ev_round ?_
      simp only [slices_Index_bool_bool.l0]
      refine Ev_pos (by omega) (Ev_pos (by omega) (Ev_pos (by omega) (Ev_neg ?_ ?_)))
      · simp [rdOf, List.getD_eq_getElem?_getD, List.getElem?_eq_getElem (show m < fl.length by omega), h2 m (by omega)]
      · rw [w64 (by omega) (by omega)]
        exact ih (m + 1) (by omega)
  exact main n 0 (by omega)

theorem mex_index (l : List Int) : (mexN l < (flags (l.length + 1) l).length) ∧ (∀ h, (flags (l.length + 1) l)[mexN l]'h = false) ∧ ∀ m (hm : m < mexN l) h, (flags (l.length + 1) l)[m]'h = true := by
  have hm := mexN_is l
  have hle := mexN_le l
  refine ⟨by rw [flags_length]; omega, fun h => ?_, fun m hlt h => ?_⟩
  · rw [flags_get]; simp [hm.1]
  · rw [flags_get]; simp [hm.2 m hlt]
theorem impl_mex_ev (l : List Int) (hl : l.length ≤ 140737488355327) (hr : ∀ x ∈ l, 0 ≤ x ∧ x ≤ 65535) : Ev (fun k => impl_mex.f k l) ((mexN l : Nat) : Int) := by
  have main : ∀ (d n : Nat), n + d = l.length → Ev (fun k => impl_mex.l0 k (flags (l.length + 1) (l.take n)) l l.length (n : Int)) ((mexN l : Nat) : Int) := by
    intro d
    induction d with
    | zero =>
      intro n h
      obtain rfl : n = l.length := by omega
      refine Ev_round ?_
      simp only [impl_mex.l0]
      refine Ev_neg (by omega) (Ev.bind ?_ (Ev.now _))
      rw [List.take_length]
      obtain ⟨a, b, c⟩ := mex_index l
      exact index_false_ev _ _ a (by rw [flags_length]; omega) (b a) (fun m hm => c m hm (by omega))
    | succ d ih =>
      intro n h
      have hn : n < l.length := by omega
      have hx := hr _ (List.getElem_mem hn)
      have ht : l.take (n + 1) = l.take n ++ [l[n]] := by rw [List.take_succ_eq_append_getElem hn]
      refine Ev_round ?_
      simp only [impl_mex.l0]
      refine Ev_pos (by omega) (Ev_pos (by omega) (Ev_pos (by omega) ?_))
      rw [rd_nat hn, w64 (by omega) (by omega), w64 (by omega) (by omega), flags_length]
      have nx := ih (n + 1) (by omega)
      rw [ht] at nx
      by_cases c : l[n] < ((l.length + 1 : Nat) : Int)
      · refine Ev_pos c (Ev_pos (by omega) (Ev_pos c ?_))
        rw [flags_set _ _ _ (by omega), Int.toNat_of_nonneg hx.1]
        exact nx
      · refine Ev_neg c ?_
        rw [flags_out _ _ _ (by omega)] at nx
        exact nx
  unfold impl_mex.f
  rw [w64 (by omega) (by omega)]
  refine Ev_pos (by omega) (Ev_pos (by omega) ?_)
  have := main l.length 0 (by omega)
  rw [List.take_zero, flags_nil] at this
  exact this

theorem impl_values_ev (g : List (List Int)) (h : validG g = true) : Ev (fun k => impl_Game_values.f k g) (GV g) := by
  have hl := valid_len h
  have outer : ∀ (d n : Nat), n + d = g.length → Ev (fun k => impl_Game_values.l0 k ((g.take n).foldl gvStep []) g g.length (n : Int)) (GV g) := by
    intro d
    induction d with
    | zero =>
      intro n hn
      obtain rfl : n = g.length := by omega
      refine Ev_round ?_
      simp only [impl_Game_values.l0]
      refine Ev_neg (by omega) (Ev_as (Ev.now _) ?_)
      rw [List.take_length]
      rfl
    | succ d ih =>
      intro n hn
      have hlt : n < g.length := by omega
      have nx := ih (n + 1) (by omega)
      rw [gvs_take n hlt] at nx
      have ho := gvs_len g n (by omega)
      have hr := gvs_range h n (by omega)
      generalize (g.take n).foldl gvStep [] = out at *
      have hx := valid_at h n hlt
      have hrl := valid_row_len h n hlt
      refine Ev_round ?_
      simp only [impl_Game_values.l0]
      refine Ev_pos (by omega) (Ev_pos (by omega) (Ev_pos (by omega) ?_))
      rw [rdL2_nat hlt]
      have inner : ∀ (e j : Nat), j + e = g[n].length → Ev (fun k => impl_Game_values.l1 k out ((g[n].take j).map (rd out)) g g.length (n : Int) g[n] g[n].length (j : Int)) (GV g) := by
        intro e
        induction e with
        | zero =>
          intro j hj
          obtain rfl : j = g[n].length := by omega
          refine Ev_round ?_
          simp only [impl_Game_values.l1]
          refine Ev_neg (by omega) ?_
          rw [List.take_length]
          have hm := mexN_le (g[n].map (rd out))
          simp only [List.length_map] at hm
          refine Ev.bind (impl_mex_ev _ (by simp; omega) (fun x hx' => ?_)) (Ev_pos (by omega) ?_)
          · obtain ⟨y, hy, rfl⟩ := List.mem_map.1 hx'
            obtain ⟨a, b⟩ := hx y hy
            have := hr _ (rd_mem (xs := out) a (by omega))
            omega
          · rw [wu16 (by omega) (by omega), w64 (by omega) (by omega)]
            exact nx
        | succ e ihe =>
          intro j hj
          have hjl : j < g[n].length := by omega
          obtain ⟨a, b⟩ := hx _ (List.getElem_mem hjl)
          refine Ev_round ?_
          simp only [impl_Game_values.l1]
          refine Ev_pos (by omega) (Ev_pos (by omega) (Ev_pos (by omega) ?_))
          rw [rd_nat hjl]
          refine Ev_pos a (Ev_pos (by omega) (Ev_pos (by simp; omega) ?_))
          rw [w64 (by omega) (by omega)]
          have := ihe (j + 1) (by omega)
          rw [List.take_succ_eq_append_getElem hjl, List.map_append] at this
          exact this
      exact inner g[n].length 0 (by omega)
  exact outer g.length 0 (by omega)

theorem vo_two {wB w2 : World} {base : Nat} {okV okX : Nat → Prop} {u v : Value} {V : List Int} {ys : List (List Int)} (hV : Kd.R (Kd.int .u16) 47 wB base okV u V) (hX : Kd.S (Kd.slice 72 (Kd.int .i8)) 70 w2 wB.heap.size okX v ys) (hb : Below wB.heap.size wB w2) (hle : base ≤ wB.heap.size) :
    ∃ N, Kd.R (Kd.int .u16) 47 w2 base (fun k => k < N) u V ∧ Kd.S (Kd.slice 72 (Kd.int .i8)) 70 w2 base (fun k => N ≤ k) v ys ∧ N ≤ w2.heap.size :=
  ⟨wB.heap.size, Kd.R_mono (Kd.R_below (Kd.R_bound hV) hb) (fun _ hk => hk.2.2.1), Kd.S_lower (Kd.S_mono (Kd.S_bound hX) (fun _ hk => hk.2.1)) hle, hb.size⟩
theorem vo_three {wB w2 : World} {base N : Nat} {okG : Nat → Prop} {u v g : Value} {V G : List Int} {ys : List (List Int)} (hV : Kd.R (Kd.int .u16) 47 wB base (fun k => k < N) u V) (hX : Kd.S (Kd.slice 72 (Kd.int .i8)) 70 wB base (fun k => N ≤ k) v ys) (hG : Kd.R (Kd.int .u16) 47 w2 wB.heap.size okG g G) (hb : Below wB.heap.size wB w2) (hN : N ≤ wB.heap.size) (hle : base ≤ wB.heap.size) :
    ∃ M, Kd.R (Kd.int .u16) 47 w2 base (fun k => k < N) u V ∧ Kd.S (Kd.slice 72 (Kd.int .i8)) 70 w2 base (fun k => N ≤ k ∧ k < M) v ys ∧ Kd.R (Kd.int .u16) 47 w2 base (fun k => M ≤ k) g G ∧ N ≤ M :=
  ⟨wB.heap.size, Kd.R_below hV hb, Kd.S_mono (Kd.S_below (Kd.S_bound hX) hb) (fun _ hk => ⟨hk.1, hk.2.2.1⟩), Kd.R_lower (Kd.R_mono (Kd.R_bound hG) (fun _ hk => hk.2.1)) hle, hN⟩
theorem vo_held (k : Nat) (A0 : Option Addr) (c0 n : Nat) (l0 : List Int) (a1 : Int) (r : Int) (w : World) (hr0 : Kd.C (Kd.int .u16) w A0 l0.length l0) (hc0 : n ≤ c0) (hn : n = l0.length) (h : laws_heldNimberS.f k l0 a1 = some r) :
    Calls Try.prog 28 #[.slice A0 n c0, .int .i64 a1] w fun e w' => e = .returned (.int .i64 r) ∧ Drawn0 w w' := by
  subst hn
  exact laws_heldNimberS.calls k A0 c0 l0 a1 r w hr0 hc0 h
set_option maxHeartbeats 1600000 in
set_option maxRecDepth 100000 in
theorem vo_law (k : Nat) (A0 : Option Addr) (c0 : Nat) (l0 : List (List Int)) (V V' : List Int) (er left mk m : Int) (X' : List (List Int)) (w : World) (hr0 : Kd.C (Kd.slice 72 (Kd.int .i8)) w A0 l0.length l0) (hc0 : l0.length ≤ c0)
    (hz : laws_szGame.f k l0 1048576 = some left) (hleft : 0 ≤ left) (ht : laws_toGame.f k l0 = some l0) (hs : spec_ValuesOf.f k l0 = some (V, er)) (hi : impl_ValuesOf.f k l0 = some (V, er)) (he : laws_eqNimberS.f k V V = some true) (hg : laws_eqGame.f k l0 l0 = some true)
    (hm : laws_markGame.f k l0 1 = some (mk, X')) (hmk : 0 ≤ mk) (hn : laws_markNimberS.f k V 1 = some (m, V')) (hh : laws_heldNimberS.f k V' 1 = some m) (hm0 : 0 ≤ m) :
    Calls Try.prog 10 #[.slice A0 l0.length c0] w fun e w' => e = .returned (.bool true) ∧ Below w.heap.size w w' := by
  have HR := Aside0.mk hr0
  have HC := Aside0.mk hc0
  have HZ := Aside0.mk hz
  have HT := Aside0.mk ht
  have HS := Aside0.mk hs
  have HI := Aside0.mk hi
  have HE := Aside0.mk he
  have HG := Aside0.mk hg
  have HM := Aside0.mk hm
  have HN := Aside0.mk hn
  have HH := Aside0.mk hh
  have HB0 := Aside0.mk (Below.refl w.heap.size w)
  have b1 : decide (left < 0) = false := decide_eq_false (by omega)
  have b2 : decide (mk < 0) = false := decide_eq_false (by omega)
  have b3 : decide (m < 0) = false := decide_eq_false (by omega)
  clear hr0 hc0 hz ht hs hi he hg hm hn hh hleft hmk hm0
  go_enter Try.func10, Try.ntmps10
  go_wp2_with (first
    | (go_at_call 15; refine (laws_szGame.calls k A0 c0 l0 1048576 left _ HR.out HC.out HZ.out).mono ?_; rintro x w1 ⟨rfl, ⟨nd, rfl⟩⟩)
    | (go_at_call 17; refine (laws_toGame.calls k A0 c0 l0 l0 _ (Kd.C_below HR.out (by repeat (first | (with_reducible first | exact HB0.out | apply below_alloc | apply pw_below_drewN | apply below_drew1) | exact HB0.out))) HC.out HT.out).mono ?_; rintro x w1 ⟨v1, rfl, hS, hb⟩; obtain ⟨A1, d1, rfl⟩ := Kd.S_slice hS; have HB1 := Aside0.mk (below_step (by repeat (first | (with_reducible first | exact HB0.out | apply below_alloc | apply pw_below_drewN | apply below_drew1) | exact HB0.out)) hb); have HT1 := Aside0.mk hS; clear HB0 hS hb)
    | (go_at_call 38; refine (spec_ValuesOf.calls k A1 d1 l0 V er _ (by repeat (first | exact (Kd.S_reads' HT1.out).2.2 | (with_reducible refine Kd.C_alloc ?_ _) | (with_reducible refine Kd.C_drewN ?_ _) | (with_reducible refine Kd.C_drew ?_))) (Kd.S_reads' HT1.out).2.1 HS.out).mono ?_; rintro x w2 ⟨v2, rfl, hV, hb⟩; obtain ⟨AV, dV, rfl⟩ := Kd.R_slice hV; have HB2 := Aside0.mk (below_step (by repeat (first | (with_reducible first | exact HB1.out | apply below_alloc | apply pw_below_drewN | apply below_drew1) | exact HB1.out)) hb); have HV2 := Aside0.mk (Kd.R_lower hV (below_size (by repeat (first | (with_reducible first | exact HB1.out | apply below_alloc | apply pw_below_drewN | apply below_drew1) | exact HB1.out)))); clear HB1 HT1 hV hb)
    | (go_at_call 17; refine (laws_toGame.calls k A0 c0 l0 l0 _ (Kd.C_below HR.out (by repeat (first | (with_reducible first | exact HB2.out | apply below_alloc | apply pw_below_drewN | apply below_drew1) | exact HB2.out))) HC.out HT.out).mono ?_; rintro x w3 ⟨v3, rfl, hS, hb⟩; obtain ⟨A3, d3, rfl⟩ := Kd.S_slice hS; have HB3 := Aside0.mk (below_step (by repeat (first | (with_reducible first | exact HB2.out | apply below_alloc | apply pw_below_drewN | apply below_drew1) | exact HB2.out)) hb); obtain ⟨N3, h1, h2, h3⟩ := vo_two (by (with_reducible repeat (first | apply Kd.R_alloc | apply Kd.R_drewN | apply Kd.R_drew)); exact HV2.out) hS hb (below_size (by repeat (first | (with_reducible first | exact HB2.out | apply below_alloc | apply pw_below_drewN | apply below_drew1) | exact HB2.out))); have HV3 := Aside0.mk h1; have HX3 := Aside0.mk h2; have HN3 := Aside0.mk h3; clear h1 h2 h3; clear HB2 HV2 hS hb)
    | (go_at_call 39; refine (impl_ValuesOf.calls k A3 d3 l0 V er _ (by repeat (first | exact (Kd.S_reads' HX3.out).2.2 | (with_reducible refine Kd.C_alloc ?_ _) | (with_reducible refine Kd.C_drewN ?_ _) | (with_reducible refine Kd.C_drew ?_))) (Kd.S_reads' HX3.out).2.1 HI.out).mono ?_; rintro x w4 ⟨v4, rfl, hG, hb⟩; obtain ⟨AG, dG, rfl⟩ := Kd.R_slice hG; have HB4 := Aside0.mk (below_step (by repeat (first | (with_reducible first | exact HB3.out | apply below_alloc | apply pw_below_drewN | apply below_drew1) | exact HB3.out)) hb); obtain ⟨N4, h1, h2, h3, h4⟩ := vo_three (by (with_reducible repeat (first | apply Kd.R_alloc | apply Kd.R_drewN | apply Kd.R_drew)); exact HV3.out) (by (with_reducible repeat (first | apply Kd.S_alloc | apply Kd.S_drewN | apply Kd.S_drew)); exact HX3.out) hG hb HN3.out (below_size (by repeat (first | (with_reducible first | exact HB3.out | apply below_alloc | apply pw_below_drewN | apply below_drew1) | exact HB3.out))); have HV4 := Aside0.mk h1; have HX4 := Aside0.mk h2; have HG4 := Aside0.mk h3; have HN4 := Aside0.mk h4; clear HB3 HV3 HX3 HN3 hG hb h1 h2 h3 h4)
    | (go_at_call 26; refine (laws_eqNimberS.calls k _ _ V _ _ V true _ (by repeat (first | exact (Kd.R_reads' HG4.out).2.2 | (with_reducible refine Kd.C_alloc ?_ _) | (with_reducible refine Kd.C_drewN ?_ _) | (with_reducible refine Kd.C_drew ?_))) (Kd.R_reads' HG4.out).2.1 (by repeat (first | exact (Kd.R_reads' HV4.out).2.2 | (with_reducible refine Kd.C_alloc ?_ _) | (with_reducible refine Kd.C_drewN ?_ _) | (with_reducible refine Kd.C_drew ?_))) (Kd.R_reads' HV4.out).2.1 HE.out).mono ?_; rintro x w' ⟨rfl, ⟨nd, rfl⟩⟩)
    | (go_at_call 17; refine (laws_toGame.calls k A0 c0 l0 l0 _ (Kd.C_below HR.out (by repeat (first | (with_reducible first | exact HB4.out | apply below_alloc | apply pw_below_drewN | apply below_drew1) | exact HB4.out))) HC.out HT.out).mono ?_; rintro x w5 ⟨v5, rfl, hS, hb⟩; obtain ⟨A5, d5, rfl⟩ := Kd.S_slice hS; have HB5 := Aside0.mk (below_step (by repeat (first | (with_reducible first | exact HB4.out | apply below_alloc | apply pw_below_drewN | apply below_drew1) | exact HB4.out)) hb); have HT5 := Aside0.mk hS; have HV5 := Aside0.mk (Kd.R_below (by (with_reducible repeat (first | apply Kd.R_alloc | apply Kd.R_drewN | apply Kd.R_drew)); exact HV4.out) hb); have HX5 := Aside0.mk (Kd.S_below (by (with_reducible repeat (first | apply Kd.S_alloc | apply Kd.S_drewN | apply Kd.S_drew)); exact HX4.out) hb); have HG5 := Aside0.mk (Kd.R_below (by (with_reducible repeat (first | apply Kd.R_alloc | apply Kd.R_drewN | apply Kd.R_drew)); exact HG4.out) hb); clear HB4 HV4 HX4 HG4 hS hb)
    | (go_at_call 19; refine (laws_eqGame.calls k _ _ l0 _ _ l0 true _ (by repeat (first | exact (Kd.S_reads' HX5.out).2.2 | (with_reducible refine Kd.C_alloc ?_ _) | (with_reducible refine Kd.C_drewN ?_ _) | (with_reducible refine Kd.C_drew ?_))) (Kd.S_reads' HX5.out).2.1 (by repeat (first | exact (Kd.S_reads' HT5.out).2.2 | (with_reducible refine Kd.C_alloc ?_ _) | (with_reducible refine Kd.C_drewN ?_ _) | (with_reducible refine Kd.C_drew ?_))) (Kd.S_reads' HT5.out).2.1 HG.out).mono ?_; rintro x w' ⟨rfl, ⟨nd, rfl⟩⟩)
    | (go_at_call 22; refine (laws_markGame.calls k (fun k_ => N3 ≤ k_ ∧ k_ < N4) _ l0 1 mk X' w _ (by repeat (first | (with_reducible first | exact HB5.out | apply below_alloc | apply pw_below_drewN | apply below_drew1) | exact HB5.out)) (by (with_reducible repeat (first | apply Kd.S_alloc | apply Kd.S_drewN | apply Kd.S_drew)); exact HX5.out) HM.out).mono ?_; rintro x w6 ⟨rfl, hS, hb, hk⟩; have HB6 := Aside0.mk hb; have HV6 := Aside0.mk (Kd.R_kept (by (with_reducible repeat (first | apply Kd.R_alloc | apply Kd.R_drewN | apply Kd.R_drew)); exact HV5.out) hk (fun k_ h1 h2 => Nat.lt_irrefl _ (Nat.lt_of_lt_of_le h1 h2.1))); have HG6 := Aside0.mk (Kd.R_kept (by (with_reducible repeat (first | apply Kd.R_alloc | apply Kd.R_drewN | apply Kd.R_drew)); exact HG5.out) hk (fun k_ h1 h2 => Nat.lt_irrefl _ (Nat.lt_of_lt_of_le h2.2 h1))); clear HB5 HV5 HX5 HG5 HT5 hS hb hk)
    | (go_at_call 26; refine (laws_eqNimberS.calls k _ _ V _ _ V true _ (by repeat (first | exact (Kd.R_reads' HG6.out).2.2 | (with_reducible refine Kd.C_alloc ?_ _) | (with_reducible refine Kd.C_drewN ?_ _) | (with_reducible refine Kd.C_drew ?_))) (Kd.R_reads' HG6.out).2.1 (by repeat (first | exact (Kd.R_reads' HV6.out).2.2 | (with_reducible refine Kd.C_alloc ?_ _) | (with_reducible refine Kd.C_drewN ?_ _) | (with_reducible refine Kd.C_drew ?_))) (Kd.R_reads' HV6.out).2.1 HE.out).mono ?_; rintro x w' ⟨rfl, ⟨nd, rfl⟩⟩)
    | (go_at_call 27; refine (laws_markNimberS.calls k (fun k_ => N4 ≤ k_) _ V 1 m V' w _ (by repeat (first | (with_reducible first | exact HB6.out | apply below_alloc | apply pw_below_drewN | apply below_drew1) | exact HB6.out)) (by (with_reducible repeat (first | apply Kd.R_alloc | apply Kd.R_drewN | apply Kd.R_drew)); exact HG6.out) HN.out).mono ?_; rintro x w7 ⟨rfl, hR, hb, hk⟩; have HB7 := Aside0.mk hb; have HV7 := Aside0.mk (Kd.R_kept (by (with_reducible repeat (first | apply Kd.R_alloc | apply Kd.R_drewN | apply Kd.R_drew)); exact HV6.out) hk (fun k_ h1 h2 => Nat.lt_irrefl _ (Nat.lt_of_lt_of_le h1 (Nat.le_trans HN4.out h2)))); have HG7 := Aside0.mk hR; clear HB6 HV6 HG6 hR hb hk)
    | (go_at_call 28; refine (vo_held k _ _ _ V' 1 m _ (by repeat (first | exact (Kd.R_reads' HG7.out).2.2 | (with_reducible refine Kd.C_alloc ?_ _) | (with_reducible refine Kd.C_drewN ?_ _) | (with_reducible refine Kd.C_drew ?_))) (Kd.R_reads' HG7.out).2.1 (Kd.R_reads' HG7.out).1 HH.out).mono ?_; rintro x w' ⟨rfl, ⟨nd, rfl⟩⟩)
    | (go_at_call 17; refine (laws_toGame.calls k A0 c0 l0 l0 _ (Kd.C_below HR.out (by repeat (first | (with_reducible first | exact HB7.out | apply below_alloc | apply pw_below_drewN | apply below_drew1) | exact HB7.out))) HC.out HT.out).mono ?_; rintro x w8 ⟨v8, rfl, hS, hb⟩; obtain ⟨A8, d8, rfl⟩ := Kd.S_slice hS; have HB8 := Aside0.mk (below_step (by repeat (first | (with_reducible first | exact HB7.out | apply below_alloc | apply pw_below_drewN | apply below_drew1) | exact HB7.out)) hb); have HT8 := Aside0.mk hS; have HV8 := Aside0.mk (Kd.R_below (by (with_reducible repeat (first | apply Kd.R_alloc | apply Kd.R_drewN | apply Kd.R_drew)); exact HV7.out) hb); have HG8 := Aside0.mk (Kd.R_below (by (with_reducible repeat (first | apply Kd.R_alloc | apply Kd.R_drewN | apply Kd.R_drew)); exact HG7.out) hb); clear HB7 HV7 HG7 hS hb)
    | (go_at_call 39; refine (impl_ValuesOf.calls k A8 d8 l0 V er _ (by repeat (first | exact (Kd.S_reads' HT8.out).2.2 | (with_reducible refine Kd.C_alloc ?_ _) | (with_reducible refine Kd.C_drewN ?_ _) | (with_reducible refine Kd.C_drew ?_))) (Kd.S_reads' HT8.out).2.1 HI.out).mono ?_; rintro x w9 ⟨v9, rfl, hH, hb⟩; obtain ⟨AH, dH, rfl⟩ := Kd.R_slice hH; have HB9 := Aside0.mk (below_step (by repeat (first | (with_reducible first | exact HB8.out | apply below_alloc | apply pw_below_drewN | apply below_drew1) | exact HB8.out)) hb); have HV9 := Aside0.mk (Kd.R_below (by (with_reducible repeat (first | apply Kd.R_alloc | apply Kd.R_drewN | apply Kd.R_drew)); exact HV8.out) hb); have HG9 := Aside0.mk (Kd.R_below (by (with_reducible repeat (first | apply Kd.R_alloc | apply Kd.R_drewN | apply Kd.R_drew)); exact HG8.out) hb); have HH9 := Aside0.mk hH; clear HB8 HV8 HG8 HT8 hH hb)
    | (go_at_call 26; refine (laws_eqNimberS.calls k _ _ V _ _ V true _ (by repeat (first | exact (Kd.R_reads' HH9.out).2.2 | (with_reducible refine Kd.C_alloc ?_ _) | (with_reducible refine Kd.C_drewN ?_ _) | (with_reducible refine Kd.C_drew ?_))) (Kd.R_reads' HH9.out).2.1 (by repeat (first | exact (Kd.R_reads' HV9.out).2.2 | (with_reducible refine Kd.C_alloc ?_ _) | (with_reducible refine Kd.C_drewN ?_ _) | (with_reducible refine Kd.C_drew ?_))) (Kd.R_reads' HV9.out).2.1 HE.out).mono ?_; rintro x w' ⟨rfl, ⟨nd, rfl⟩⟩)
    | (go_at_call 28; refine (vo_held k _ _ _ V' 1 m _ (by repeat (first | exact (Kd.R_reads' HG9.out).2.2 | (with_reducible refine Kd.C_alloc ?_ _) | (with_reducible refine Kd.C_drewN ?_ _) | (with_reducible refine Kd.C_drew ?_))) (Kd.R_reads' HG9.out).2.1 (Kd.R_reads' HG9.out).1 HH.out).mono ?_; rintro x w' ⟨rfl, ⟨nd, rfl⟩⟩))
  go_ret
  exact ⟨rfl, (by repeat (first | (with_reducible first | exact HB9.out | apply below_alloc | apply pw_below_drewN | apply below_drew1) | exact HB9.out))⟩
set_option maxHeartbeats 800000 in
set_option maxRecDepth 100000 in
theorem vo_small (k : Nat) (A0 : Option Addr) (c0 : Nat) (l0 : List (List Int)) (left : Int) (w : World) (hr0 : Kd.C (Kd.slice 72 (Kd.int .i8)) w A0 l0.length l0) (hc0 : l0.length ≤ c0)
    (hz : laws_szGame.f k l0 1048576 = some left) (hleft : left < 0) :
    Calls Try.prog 10 #[.slice A0 l0.length c0] w fun e w' => e = .returned (.bool true) ∧ Below w.heap.size w w' := by
  have HR := Aside0.mk hr0
  have HC := Aside0.mk hc0
  have HZ := Aside0.mk hz
  have HB0 := Aside0.mk (Below.refl w.heap.size w)
  have b1 : decide (left < 0) = true := decide_eq_true hleft
  clear hr0 hc0 hz
  go_enter Try.func10, Try.ntmps10
  go_wp2_with (go_at_call 15; refine (laws_szGame.calls k A0 c0 l0 1048576 left _ HR.out HC.out HZ.out).mono ?_; rintro x w1 ⟨rfl, ⟨nd, rfl⟩⟩)
  go_ret
  exact ⟨rfl, (by repeat (first | (with_reducible first | exact HB0.out | apply below_alloc | apply pw_below_drewN | apply below_drew1) | exact HB0.out))⟩

/-- How many numbers a game has; what it holds when it was marked from a on. -/
def tot : List (List Int) → Int
  | [] => 0
  | x :: t => (x.length : Int) + tot t
def mgRows : Int → List (List Int) → List (List Int)
  | _, [] => []
  | a, x :: t => markG .i8 a x.length :: mgRows (a + (x.length : Int)) t
theorem tot_pos : ∀ g : List (List Int), 0 ≤ tot g := by
  intro g
  induction g with
  | nil => simp [tot]
  | cons x t ih => unfold tot; omega

theorem markRows_ev : ∀ (g : List (List Int)) (a : Int), 0 ≤ a → a + tot g ≤ 9223372036854775806 → Ev (fun k => laws_markGame.f k g a) (a + tot g, mgRows a g) := by
  intro g
  unfold laws_markGame.f
  induction g with
  | nil => intro a _ _; exact Ev_as (Ev.now _) (by simp [tot, mgRows])
  | cons x t ih =>
    intro a ha hb
    have h0 := tot_pos t
    unfold tot at hb
    refine Ev.bind (markInt8S_ev x a ha (by omega)) (Ev.bind (ih (a + (x.length : Int)) (by omega) (by omega)) (Ev_as (Ev.now _) ?_))
    have e2 : a + tot (x :: t) = a + (x.length : Int) + tot t := by show a + ((x.length : Int) + tot t) = _; omega
    rw [e2]
    rfl

def laws_FnExactValuesOf.f (k : Nat) (l0 : List (List Int)) : Option Bool :=
  (laws_szGame.f k l0 1048576).bind fun left => if left < 0 then some true else
  (laws_toGame.f k l0).bind fun t => (spec_ValuesOf.f k l0).bind fun s => (impl_ValuesOf.f k l0).bind fun g => (laws_eqNimberS.f k s.1 s.1).bind fun e => (laws_eqGame.f k l0 l0).bind fun e2 => (laws_markGame.f k l0 1).bind fun m => (laws_markNimberS.f k s.1 1).bind fun n => (laws_heldNimberS.f k n.2 1).bind fun h =>
    if t = l0 ∧ g = s ∧ e = true ∧ e2 = true ∧ 0 ≤ m.1 ∧ h = n.1 ∧ 0 ≤ h then some true else none
theorem laws_FnExactValuesOf.calls (k : Nat) (A0 : Option Addr) (c0 : Nat) (l0 : List (List Int)) (r : Bool) (w : World) (hr0 : Kd.C (Kd.slice 72 (Kd.int .i8)) w A0 l0.length l0) (hc0 : l0.length ≤ c0) (h : laws_FnExactValuesOf.f k l0 = some r) :
    Calls Try.prog 10 #[.slice A0 l0.length c0] w fun e w' => e = .returned (.bool r) ∧ Below w.heap.size w w' := by
  obtain ⟨left, hz, h⟩ := Option.bind_eq_some_iff.mp h
  by_cases hl : left < 0
  · rw [if_pos hl] at h
    obtain rfl := Option.some.inj h
    exact vo_small k A0 c0 l0 left w hr0 hc0 hz hl
  rw [if_neg hl] at h
  obtain ⟨t, ht, h⟩ := Option.bind_eq_some_iff.mp h
  obtain ⟨⟨V, er⟩, hs, h⟩ := Option.bind_eq_some_iff.mp h
  obtain ⟨g, hi, h⟩ := Option.bind_eq_some_iff.mp h
  obtain ⟨e, he, h⟩ := Option.bind_eq_some_iff.mp h
  obtain ⟨e2, hg, h⟩ := Option.bind_eq_some_iff.mp h
  obtain ⟨⟨mk, X'⟩, hm, h⟩ := Option.bind_eq_some_iff.mp h
  obtain ⟨⟨m, V'⟩, hn, h⟩ := Option.bind_eq_some_iff.mp h
  obtain ⟨hh, h5, h⟩ := Option.bind_eq_some_iff.mp h
  by_cases c : t = l0 ∧ g = (V, er) ∧ e = true ∧ e2 = true ∧ 0 ≤ mk ∧ hh = m ∧ 0 ≤ hh
  · rw [if_pos c] at h
    obtain rfl := Option.some.inj h
    obtain ⟨rfl, rfl, rfl, rfl, h0, rfl, h1⟩ := c
    exact vo_law k A0 c0 _ V V' er left mk hh X' w hr0 hc0 hz (by omega) ht hs hi he hg hm h0 hn h5 h1
  · rw [if_neg c] at h
    cases h
theorem tot_le : ∀ g : List (List Int), (∀ x ∈ g, x.length ≤ 1048576) → tot g ≤ 1048576 * (g.length : Int) := by
  intro g
  induction g with
  | nil => intro _; simp [tot]
  | cons x t ih =>
    intro h
    have h1 := h x (by simp)
    have h2 := ih (fun y hy => h y (by simp [hy]))
    unfold tot
    rw [List.length_cons]
    omega
theorem valuesBoth (g : List (List Int)) (hg : g.length ≤ 1048576) (hv : ∀ mv ∈ g, mv.length ≤ 1048576 ∧ ∀ x ∈ mv, -128 ≤ x ∧ x ≤ 127) :
    ∃ R : List Int × Int, R.1.length ≤ 60 ∧ Ev (fun k => spec_ValuesOf.f k g) R ∧ Ev (fun k => impl_ValuesOf.f k g) R := by
  by_cases c : validG g = true
  · have hs := spec_values_ev g c
    have hi := impl_values_ev g c
    have hl := GV_len g
    have hl2 := valid_len c
    exact ⟨(GV g, 0), by simp only; omega, Ev.bind (spec_ok_ev g hg hv) (Ev_pos c (Ev.bind hs (Ev.now _))), Ev.bind (impl_valid_ev g hg hv) (Ev_pos c (Ev.bind hi (Ev.now _)))⟩
  · exact ⟨([], 1), by simp, Ev.bind (spec_ok_ev g hg hv) (Ev_neg c (Ev.now _)), Ev.bind (impl_valid_ev g hg hv) (Ev_neg c (Ev.now _))⟩
theorem FnExactValuesOf (g : List (List Int)) (hg : g.length ≤ maxLen) (hr : ∀ mv ∈ g, mv.length ≤ maxLen ∧ ∀ x ∈ mv, (Lit.int .i8 x).wf = true) : ∃ k, laws_FnExactValuesOf.f k g = some true := by
  refine Ev.rounds (r := true) ?_
  obtain ⟨r, h1, _, h3⟩ := szGame_ev g hg (fun mv hm => (hr mv hm).1) 1048576 ⟨by omega, by omega⟩
  refine Ev.bind h1 ?_
  by_cases c : r < 0
  · exact Ev_pos c (Ev.now _)
  · obtain ⟨hl1, hl2⟩ := h3 (by omega)
    have hv : ∀ mv ∈ g, mv.length ≤ 1048576 ∧ ∀ x ∈ mv, -128 ≤ x ∧ x ≤ 127 := fun mv hm => ⟨hl2 mv hm, fun x hx => wf_i8 ((hr mv hm).2 x hx)⟩
    obtain ⟨⟨V, er⟩, hV, hs, hi⟩ := valuesBoth g hl1 hv
    simp only at hV
    have ht := tot_le g (fun x hx => hl2 x hx)
    have hp := tot_pos g
    have ht2 : 1048576 * (g.length : Int) ≤ 1048576 * 1048576 := by omega
    refine Ev_neg c (Ev.bind (toGame_ev g hl1 hl2) (Ev.bind hs (Ev.bind hi (Ev.bind (eqNimberS_ev V V (by omega)) (Ev.bind (eqGame_ev g g hl1 hl2) (Ev.bind (markRows_ev g 1 (by omega) (by omega)) (Ev.bind (markNimberS_ev V (by omega)) (Ev.bind (heldNimberS_ev V.length (by omega)) ?_))))))))
    exact Ev_pos ⟨rfl, rfl, by simp, by simp, by simp only; omega, rfl, by omega⟩ (Ev.now _)

end Go.Proofs.Ytbhjkaiiebpopaa.Pure
