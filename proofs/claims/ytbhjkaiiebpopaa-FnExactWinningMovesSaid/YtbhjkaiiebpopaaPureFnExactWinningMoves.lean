/- FnExactWinningMoves: the printed pure statement holds: at every input the law's function answers true; no condition but the bounds of its kinds. -/
import Derived.Test.YtbhjkaiiebpopaaQFnExactWinningMovesx
import Derived.Test.YtbhjkaiiebpopaaLib
import Derived.Test.YtbhjkaiiebpopaaWKept
import Derived.Test.YtbhjkaiiebpopaaWApart
import Derived.Test.YtbhjkaiiebpopaaLib3
import Derived.Test.YtbhjkaiiebpopaaWalkFnExactWinningMoves
set_option linter.unusedVariables false
set_option linter.unusedSimpArgs false
namespace Go.Proofs.Ytbhjkaiiebpopaa.Pure
open Go.RowKit Go.Proofs.Ytbhjkaiiebpopaa.QFnExactWinningMoves Go.Proofs.YtbhjkaiiebpopaaW.PrintWords Go.Proofs.YtbhjkaiiebpopaaW.PrintLast Go.Proofs.Ytbhjkaiiebpopaa.Lib Go.Proofs.Ytbhjkaiiebpopaa.WalkFnExactWinningMoves

theorem rdL2_nat {g : List (List Int)} {n : Nat} (h : n < g.length) : rd_L1 g (n : Int) = g[n] := by simp [rd_L1, List.getD_eq_getElem?_getD, List.getElem?_eq_getElem h]

theorem szInt8S_eq (xs : List Int) (a : Int) (hx : xs.length ≤ maxLen) (ha : 0 ≤ a ∧ a ≤ 1048576) : ∃ r, laws_szInt8S.f xs a = some r ∧ r ≤ 1048576 ∧ (0 ≤ r → xs.length ≤ 1048576) := by
  unfold maxLen at hx
  unfold laws_szInt8S.f
  rw [w64 (by omega) (by omega)]
  by_cases c : a - (xs.length : Int) < 0
  · exact ⟨-1, if_pos c, by omega, by omega⟩
  · exact ⟨_, if_neg c, by omega, by omega⟩

theorem szGame_ev (g : List (List Int)) (hg : g.length ≤ maxLen) (hr : ∀ mv ∈ g, mv.length ≤ maxLen) (a : Int) (ha : 0 ≤ a ∧ a ≤ 1048576) :
    ∃ r, Ev (fun k => laws_szGame.f k g a) r ∧ r ≤ 1048576 ∧ (0 ≤ r → g.length ≤ 1048576 ∧ ∀ mv ∈ g, mv.length ≤ 1048576) := by
  unfold maxLen at hg
  unfold laws_szGame.f
  rw [w64 (by omega) (by omega)]
  by_cases c : a - (g.length : Int) < 0
  · exact ⟨-1, Ev_pos c (Ev.now _), by omega, by omega⟩
  · have main : ∀ (d n : Nat) (b : Int), n + d = g.length → 0 ≤ b → b ≤ 1048576 → ∃ r, Ev (fun k => laws_szGame.l0 k g b (n : Int)) r ∧ r ≤ 1048576 ∧ (0 ≤ r → ∀ mv ∈ g.drop n, mv.length ≤ 1048576) := by
      intro d
      induction d with
      | zero =>
        intro n b h h0 h1
        obtain rfl : n = g.length := by omega
        refine ⟨b, Ev_round ?_, h1, by simp⟩
        simp only [laws_szGame.l0]
        exact Ev_neg (by omega) (Ev.now _)
      | succ d ih =>
        intro n b h h0 h1
        have hn : n < g.length := by omega
        obtain ⟨r, hr1, hr2, hr3⟩ := szInt8S_eq g[n] b (hr _ (List.getElem_mem hn)) ⟨h0, h1⟩
        by_cases cr : r < 0
        · refine ⟨-1, Ev_round ?_, by omega, by omega⟩
          simp only [laws_szGame.l0]
          refine Ev_pos (by omega) (Ev_pos (by omega) ?_)
          rw [rdL2_nat hn]
          exact Ev_bind1 hr1 (Ev_pos cr (Ev.now _))
        · obtain ⟨q, hq1, hq2, hq3⟩ := ih (n + 1) r (by omega) (by omega) hr2
          refine ⟨q, Ev_round ?_, hq2, fun hq => ?_⟩
          · simp only [laws_szGame.l0]
            refine Ev_pos (by omega) (Ev_pos (by omega) ?_)
            rw [rdL2_nat hn, w64 (by omega) (by omega)]
            exact Ev_bind1 hr1 (Ev_neg cr hq1)
          · rw [List.drop_eq_getElem_cons hn]
            intro mv hmv
            rcases List.mem_cons.1 hmv with rfl | hmv
            · exact hr3 (by omega)
            · exact hq3 hq mv hmv
    obtain ⟨r, h1, h2, h3⟩ := main g.length 0 (a - g.length) (by omega) (by omega) (by omega)
    exact ⟨r, Ev_neg c h1, h2, fun h => ⟨by omega, by simpa using h3 h⟩⟩

theorem toInt8S_ev (xs : List Int) (hn : xs.length ≤ 1048576) : Ev (fun k => laws_toInt8S.f k xs) xs :=
  copy_any (L := laws_toInt8S.l0) 281474976710656 (fun _ _ _ _ => rfl) xs (by omega) (by omega)

theorem toGame_ev (g : List (List Int)) (hg : g.length ≤ 1048576) (hr : ∀ mv ∈ g, mv.length ≤ 1048576) : Ev (fun k => laws_toGame.f k g) g := by
  have main : ∀ (d n : Nat) (ys : List (List Int)), n + d = g.length → ys.length = g.length → ys.take n = g.take n → Ev (fun k => laws_toGame.l0 k g ys (n : Int)) g := by
    intro d
    induction d with
    | zero =>
      intro n ys h1 h2 h3
      refine Ev_round ?_
      simp only [laws_toGame.l0]
      refine Ev_neg (by omega) (Ev_as (Ev.now _) ?_)
      rw [List.take_of_length_le (by omega), List.take_of_length_le (by omega)] at h3
      exact h3
    | succ d ih =>
      intro n ys h1 h2 h3
      have hn : n < g.length := by omega
      refine Ev_round ?_
      simp only [laws_toGame.l0]
      refine Ev_pos (by omega) (Ev_pos (by omega) ?_)
      rw [rdL2_nat hn]
      refine Ev.bind (toInt8S_ev _ (hr _ (List.getElem_mem hn))) (Ev_pos (by omega) ?_)
      rw [w64 (by omega) (by omega), Int.toNat_natCast]
      refine ih (n + 1) (ys.set n g[n]) (by omega) (by simpa using h2) ?_
      rw [List.take_succ_eq_append_getElem (by simp; omega), List.take_succ_eq_append_getElem hn, List.take_set_of_le (by omega), h3]
      simp
  refine Ev_pos (by omega) (Ev_pos (by omega) (main g.length 0 _ (by omega) (by simp) (by simp)))

theorem eqInt8S_ev (xs ys : List Int) (hn : xs.length ≤ 140737488355328) : Ev (fun k => laws_eqInt8S.f k xs ys) (decide (xs = ys)) :=
  eq_all (L := laws_eqInt8S.l0) (fun _ _ _ _ => rfl) xs ys (by omega)

theorem eqGame_ev (g h : List (List Int)) (hg : g.length ≤ 1048576) (hr : ∀ mv ∈ g, mv.length ≤ 1048576) : Ev (fun k => laws_eqGame.f k g h) (decide (g = h)) := by
  by_cases hl : g.length = h.length
  · have main : ∀ (d n : Nat), n + d = g.length → g.take n = h.take n → Ev (fun k => laws_eqGame.l0 k g h (n : Int)) (decide (g = h)) := by
      intro d
      induction d with
      | zero =>
        intro n h1 h3
        refine Ev_round ?_
        simp only [laws_eqGame.l0]
        refine Ev_neg (by omega) (Ev_as (Ev.now _) ?_)
        rw [List.take_of_length_le (by omega), List.take_of_length_le (by omega)] at h3
        simp [h3]
      | succ d ih =>
        intro n h1 h3
        have hn : n < g.length := by omega
        have hm : n < h.length := by omega
        refine Ev_round ?_
        simp only [laws_eqGame.l0]
        refine Ev_pos (by omega) (Ev_pos (by omega) (Ev_pos (by omega) ?_))
        rw [rdL2_nat hn, rdL2_nat hm, w64 (by omega) (by omega)]
        refine Ev.bind (eqInt8S_ev _ _ (by have := hr _ (List.getElem_mem hn); omega)) ?_
        by_cases e : g[n] = h[n]
        · refine Ev_pos (by simp [e]) (ih (n + 1) (by omega) ?_)
          rw [List.take_succ_eq_append_getElem hn, List.take_succ_eq_append_getElem hm, h3, e]
        · refine Ev_neg (by simp [e]) (Ev_as (Ev.now _) ?_)
          have : g ≠ h := fun x => e (by subst x; rfl)
          simp [this]
    exact Ev_pos (by omega) (main g.length 0 (by omega) (by simp))
  · refine Ev_neg (by omega) (Ev_as (Ev.now _) ?_)
    have : g ≠ h := fun e => hl (by rw [e])
    simp [this]

theorem markInt8S_ev (xs : List Int) (a : Int) (ha : 0 ≤ a) (hb : a + (xs.length : Int) ≤ 9223372036854775806) : Ev (fun k => laws_markInt8S.f k xs a) (a + (xs.length : Int), markG .i8 a xs.length) := by
  have h := mark_loop (L := laws_markInt8S.l0) (K := .i8) (fun _ _ _ _ => rfl) a xs.length ha hb xs.length 0 xs (by omega) rfl (by simp)
  have e : a + ((0 : Nat) : Int) = a := by omega
  rw [e] at h
  exact h

theorem toInt64S_ev (xs : List Int) (hn : xs.length ≤ 1048576) : Ev (fun k => laws_toInt64S.f k xs) xs :=
  copy_any (L := laws_toInt64S.l0) 35184372088832 (fun _ _ _ _ => rfl) xs (by omega) (by omega)

theorem eqInt64S_ev (xs ys : List Int) (hn : xs.length ≤ 140737488355328) : Ev (fun k => laws_eqInt64S.f k xs ys) (decide (xs = ys)) :=
  eq_all (L := laws_eqInt64S.l0) (fun _ _ _ _ => rfl) xs ys (by omega)

theorem least_ev (l : List Int) (hl : l.length ≤ 65535) (hr : ∀ x ∈ l, 0 ≤ x ∧ x ≤ 65535) : Ev (fun k => spec_l03Least.f k l) ((mexN l : Nat) : Int) := by
  have hm := mexN_is l
  have hle := mexN_le l
  have last : ∀ (d n : Nat), n + d = mexN l → Ev (fun k => spec_l03Least.l1 k (flags (l.length + 1) l) (n : Int)) ((mexN l : Nat) : Int) := by
    intro d
    induction d with
    | zero =>
      intro n h
      obtain rfl : n = mexN l := by omega
      refine Ev_round ?_
      simp only [spec_l03Least.l1]
      refine Ev_pos (by omega) (Ev_pos (by rw [flags_length]; omega) (Ev_neg ?_ ?_))
      · rw [rdOf, List.getD_eq_getElem?_getD, List.getElem?_eq_getElem (by rw [Int.toNat_natCast, flags_length]; omega), Option.getD_some, flags_get]
        simp [hm.1]
      · rw [wu16 (by omega) (by omega)]
        exact Ev.now _
    | succ d ih =>
      intro n h
      refine Ev_round ?_
      simp only [spec_l03Least.l1]
      refine Ev_pos (by omega) (Ev_pos (by rw [flags_length]; omega) (Ev_pos ?_ ?_))
      · rw [rdOf, List.getD_eq_getElem?_getD, List.getElem?_eq_getElem (by rw [Int.toNat_natCast, flags_length]; omega), Option.getD_some, flags_get]
        simp [hm.2 n (by omega)]
      · rw [w64 (by omega) (by omega)]
        exact ih (n + 1) (by omega)
  have main : ∀ (d n : Nat), n + d = l.length → Ev (fun k => spec_l03Least.l0 k l (flags (l.length + 1) (l.take n)) (n : Int)) ((mexN l : Nat) : Int) := by
    intro d
    induction d with
    | zero =>
      intro n h
      obtain rfl : n = l.length := by omega
      refine Ev_round ?_
      simp only [spec_l03Least.l0]
      refine Ev_neg (by omega) ?_
      rw [List.take_length]
      exact last (mexN l) 0 (by omega)
    | succ d ih =>
      intro n h
      have hn : n < l.length := by omega
      have hx := hr _ (List.getElem_mem hn)
      have ht : l.take (n + 1) = l.take n ++ [l[n]] := by rw [List.take_succ_eq_append_getElem hn]
      refine Ev_round ?_
      simp only [spec_l03Least.l0]
      refine Ev_pos (by omega) (Ev_pos (by omega) ?_)
      rw [rd_nat hn, w64 (by omega) (by omega), w64 (by omega) (by omega), flags_length]
      have nx := ih (n + 1) (by omega)
      rw [ht] at nx
      by_cases c : l[n] < ((l.length + 1 : Nat) : Int)
      · refine Ev_pos c (Ev_pos (by omega) (Ev_pos c ?_))
        rw [flags_set _ _ _ (by omega), Int.toNat_of_nonneg hx.1]
        exact nx
      · refine Ev_neg c ?_
        rw [flags_out _ _ _ (by omega)] at nx
        exact nx
  unfold spec_l03Least.f
  rw [w64 (by omega) (by omega)]
  refine Ev_pos (by omega) (Ev_pos (by omega) ?_)
  have := main l.length 0 (by omega)
  rw [List.take_zero, flags_nil] at this
  exact this

theorem spec_values_ev (g : List (List Int)) (h : validG g = true) : Ev (fun k => spec_l03Values.f k g) (GV g) := by
  have hl := valid_len h
  have outer : ∀ (d n : Nat), n + d = g.length → Ev (fun k => spec_l03Values.l0 k g ((g.take n).foldl gvStep []) (n : Int)) (GV g) := by
    intro d
    induction d with
    | zero =>
      intro n hn
      obtain rfl : n = g.length := by omega
      refine Ev_round ?_
      simp only [spec_l03Values.l0]
      refine Ev_neg (by omega) (Ev_as (Ev.now _) ?_)
      rw [List.take_length]
      rfl
    | succ d ih =>
      intro n hn
      have hlt : n < g.length := by omega
      have nx := ih (n + 1) (by omega)
      rw [gvs_take n hlt] at nx
      have ho := gvs_len g n (by omega)
      have hr := gvs_range h n (by omega)
      generalize (g.take n).foldl gvStep [] = out at *
      have hx := valid_at h n hlt
      have hrl := valid_row_len h n hlt
      refine Ev_round ?_
      simp only [spec_l03Values.l0]
      refine Ev_pos (by omega) ?_
      have inner : ∀ (e j : Nat), j + e = g[n].length → Ev (fun k => spec_l03Values.l1 k g out (n : Int) ((g[n].take j).map (rd out)) (j : Int)) (GV g) := by
        intro e
        induction e with
        | zero =>
          intro j hj
          obtain rfl : j = g[n].length := by omega
          refine Ev_round ?_
          simp only [spec_l03Values.l1]
          rw [rdL2_nat hlt, List.take_length]
          refine Ev_pos (by omega) (Ev_pos (by omega) (Ev_neg (by omega) (Ev.bind (least_ev _ (by simp; omega) (fun x hx' => ?_)) (Ev_pos (by omega) ?_))))
          · obtain ⟨y, hy, rfl⟩ := List.mem_map.1 hx'
            obtain ⟨a, b⟩ := hx y hy
            have := hr _ (rd_mem (xs := out) a (by omega))
            omega
          · rw [w64 (by omega) (by omega)]
            exact nx
        | succ e ihe =>
          intro j hj
          have hjl : j < g[n].length := by omega
          obtain ⟨a, b⟩ := hx _ (List.getElem_mem hjl)
          refine Ev_round ?_
          simp only [spec_l03Values.l1]
          rw [rdL2_nat hlt, rd_nat hjl]
          refine Ev_pos (by omega) (Ev_pos (by omega) (Ev_pos (by omega) (Ev_pos (by omega) (Ev_pos a (Ev_pos (by omega) (Ev_pos (by simp; omega) ?_))))))
          rw [w64 (by omega) (by omega)]
          have := ihe (j + 1) (by omega)
          rw [List.take_succ_eq_append_getElem hjl, List.map_append] at this
          exact this
      exact inner g[n].length 0 (by omega)
  exact outer g.length 0 (by omega)

theorem spec_ok_ev (g : List (List Int)) (hl : g.length ≤ 1048576) (hr : ∀ mv ∈ g, mv.length ≤ 1048576 ∧ ∀ x ∈ mv, -128 ≤ x ∧ x ≤ 127) : Ev (fun k => spec_l03Ok.f k g) (validG g) := by
  have inner : ∀ (n : Nat) (hn : n < g.length) (r : Bool), Ev (fun k => spec_l03Ok.l0 k g ((n + 1 : Nat) : Int)) r →
      ∀ (d j : Nat) (p : Int), j + d = g[n].length → -1 ≤ p → p ≤ 127 → Ev (fun k => spec_l03Ok.l1 k g (n : Int) p (j : Int)) (okFrom n p (g[n].drop j) && r) := by
    intro n hn r hnext d
    have hmv := hr _ (List.getElem_mem hn)
    induction d with
    | zero =>
      intro j p h hp hp1
      obtain rfl : j = g[n].length := by omega
      refine Ev_round ?_
      simp only [spec_l03Ok.l1]
      rw [rdL2_nat hn]
      refine Ev_pos (by omega) (Ev_pos (by omega) (Ev_neg (by omega) ?_))
      rw [w64 (by omega) (by omega), List.drop_length]
      exact Ev_as hnext (by simp [okFrom])
    | succ d ih =>
      intro j p h hp hp1
      have hj : j < g[n].length := by omega
      have hx := hmv.2 _ (List.getElem_mem hj)
      refine Ev_round ?_
      simp only [spec_l03Ok.l1]
      rw [rdL2_nat hn]
      refine Ev_pos (by omega) (Ev_pos (by omega) (Ev_pos (by omega) (Ev_pos (by omega) ?_)))
      have e0 : wrap64 ((j : Int) + 1) = ((j + 1 : Nat) : Int) := by rw [w64 (by omega) (by omega)]; omega
      rw [List.drop_eq_getElem_cons hj, rd_nat hj, e0, w64 (x := g[n][j]) (by omega) (by omega), w64 (x := (n : Int) - 1) (by omega) (by omega), w64 (x := p + 1) (by omega) (by omega)]
      unfold spec_l00In.f
      by_cases c : p < g[n][j] ∧ 0 ≤ g[n][j] ∧ g[n][j] ≤ (n : Int) - 1
      · refine Ev_bind1 (if_pos (by omega)) (Ev_pos (by simp; omega) (Ev_as (ih (j + 1) _ (by omega) (by omega) (by omega)) ?_))
        simp [okFrom, c]
      · by_cases c0 : g[n][j] ≥ p + 1
        · refine Ev_bind1 (if_pos c0) (Ev_neg (by simp; omega) (Ev_as (Ev.now _) ?_))
          simp [okFrom, c]
        · refine Ev_bind1 (if_neg c0) (Ev_neg (by simp) (Ev_as (Ev.now _) ?_))
          simp [okFrom, c]
  have outer : ∀ (d n : Nat), n + d = g.length → Ev (fun k => spec_l03Ok.l0 k g (n : Int)) (okRows n (g.drop n) && decide (1 ≤ g.length ∧ g.length ≤ 60)) := by
    intro d
    induction d with
    | zero =>
      intro n h
      obtain rfl : n = g.length := by omega
      refine Ev_round ?_
      simp only [spec_l03Ok.l0]
      refine Ev_neg (by omega) ?_
      unfold spec_l00In.f
      rw [List.drop_length]
      by_cases c0 : (g.length : Int) ≥ 1
      · refine Ev_bind1 (if_pos c0) (Ev_as (Ev.now _) ?_)
        simp only [okRows, Bool.true_and]
        apply decide_eq_decide.2
        omega
      · refine Ev_bind1 (if_neg c0) (Ev_as (Ev.now _) ?_)
        simp [okRows]
        omega
    | succ d ih =>
      intro n h
      have hn : n < g.length := by omega
      refine Ev_round ?_
      simp only [spec_l03Ok.l0]
      refine Ev_pos (by omega) ?_
      rw [List.drop_eq_getElem_cons hn]
      refine Ev_as (inner n hn _ (ih (n + 1) (by omega)) g[n].length 0 (-1) (by omega) (by omega) (by omega)) ?_
      simp [okRows, Bool.and_assoc]
  exact Ev_as (outer g.length 0 (by omega)) (by simp [validG])

/-- What is told of a game and places. -/
def placedR (g : List (List Int)) (l : List Int) : Int := if validG g = true then (if (l.length : Int) > 12 then 3 else (if (l.any fun p => !(decide (0 ≤ p ∧ p ≤ (g.length : Int) - 1))) = true then 2 else 0)) else 1
theorem placed_ev (g : List (List Int)) (hl : g.length ≤ 1048576) (hr : ∀ mv ∈ g, mv.length ≤ 1048576 ∧ ∀ x ∈ mv, -128 ≤ x ∧ x ≤ 127) (l : List Int) (hll : l.length ≤ 1048576) : Ev (fun k => spec_l03Placed.f k g l) (placedR g l) := by
  have main : ∀ (d n : Nat), n + d = l.length → Ev (fun k => spec_l03Placed.l0 k g l (n : Int)) (if ((l.drop n).any fun p => !(decide (0 ≤ p ∧ p ≤ (g.length : Int) - 1))) = true then 2 else 0) := by
    intro d
    induction d with
    | zero =>
      intro n h
      obtain rfl : n = l.length := by omega
      refine Ev_round ?_
      simp only [spec_l03Placed.l0]
      rw [List.drop_length]
      exact Ev_neg (by omega) (Ev_as (Ev.now _) (by simp))
    | succ d ih =>
      intro n h
      have hn : n < l.length := by omega
      refine Ev_round ?_
      simp only [spec_l03Placed.l0]
      rw [List.drop_eq_getElem_cons hn, rd_nat hn, w64 (x := (g.length : Int) - 1) (by omega) (by omega), w64 (by omega) (by omega), List.any_cons]
      refine Ev_pos (by omega) (Ev_pos (by omega) ?_)
      unfold spec_l00In.f
      by_cases c : 0 ≤ l[n] ∧ l[n] ≤ (g.length : Int) - 1
      · refine Ev_bind1 (if_pos c.1) (Ev_pos (by simpa using c.2) (Ev_as (ih (n + 1) (by omega)) ?_))
        simp only [c, and_self, decide_true, Bool.not_true, Bool.false_or]
      · have e : (!(decide (0 ≤ l[n] ∧ l[n] ≤ (g.length : Int) - 1))) = true := by simp only [c, decide_false, Bool.not_false]
        rw [e, Bool.true_or]
        by_cases c0 : l[n] ≥ 0
        · exact Ev_bind1 (if_pos c0) (Ev_neg (by simp; omega) (Ev.now _))
        · exact Ev_bind1 (if_neg c0) (Ev_neg (by simp) (Ev.now _))
  unfold spec_l03Placed.f placedR
  refine Ev.bind (spec_ok_ev g hl hr) (Ev_ite (fun _ => Ev_ite (fun _ => Ev.now _) (fun _ => ?_)) (fun _ => Ev.now _))
  exact main l.length 0 (by omega)
theorem placedR_zero {g : List (List Int)} {l : List Int} (h : placedR g l = 0) : validG g = true ∧ l.length ≤ 12 ∧ ∀ p ∈ l, 0 ≤ p ∧ p ≤ (g.length : Int) - 1 := by
  unfold placedR at h
  by_cases c : validG g = true
  · rw [if_pos c] at h
    by_cases c2 : (l.length : Int) > 12
    · rw [if_pos c2] at h
      exact absurd h (by decide)
    · rw [if_neg c2] at h
      refine ⟨c, by omega, fun p hp => ?_⟩
      apply Classical.byContradiction
      intro hn
      rw [if_pos (List.any_eq_true.2 ⟨p, hp, by simp only [hn, decide_false, Bool.not_false]⟩)] at h
      exact absurd h (by decide)
  · rw [if_neg c] at h
    exact absurd h (by decide)

/-- The sum of the values of places. -/
def sumP (vals l : List Int) : Int := l.foldl (fun s p => X s (rd vals p)) 0
theorem spec_sumP_ev (vals l : List Int) (hl : l.length ≤ 1048576) (hp : ∀ p ∈ l, 0 ≤ p ∧ p < (vals.length : Int)) : Ev (fun k => spec_l03Sum.f k vals l) (sumP vals l) :=
  fold_loop (L := fun k s i => spec_l03Sum.l0 k vals l s i) (f := fun s p => X s (rd vals p)) (fin := id) l (fun _ _ => True)
    (fun k s n h _ => by
      have := hp _ (List.getElem_mem h)
      simp only [spec_l03Sum.l0]
      rw [rd_nat h, if_pos (by omega), if_pos (by omega), if_pos this.1, if_pos this.2, w64 (by omega) (by omega)]
      rfl)
    (fun _ _ _ _ => trivial)
    (fun k s _ => by simp only [spec_l03Sum.l0]; rw [if_neg (by omega)]; rfl) l.length 0 0 (by omega) trivial

/-- Does the move from p to t make the sum 0? -/
def wmWin (V : List Int) (s p t : Int) : Bool := decide (X (X s (rd V p)) (rd V t) = 0)
def wmRow (V : List Int) (s : Int) (i : Nat) (p : Int) (row : List Int) (n : Nat) : List S88 := ((row.take n).filter fun t => wmWin V s p t).map fun t => ⟨(i : Int), t⟩
theorem wmRow_zero (V : List Int) (s : Int) (i : Nat) (p : Int) (row : List Int) : wmRow V s i p row 0 = [] := by simp [wmRow]
theorem wmRow_succ (V : List Int) (s : Int) (i : Nat) (p : Int) (row : List Int) (n : Nat) (h : n < row.length) : wmRow V s i p row (n + 1) = wmRow V s i p row n ++ (if wmWin V s p row[n] then [⟨(i : Int), row[n]⟩] else []) := by
  unfold wmRow
  rw [List.take_succ_eq_append_getElem h, List.filter_append, List.map_append]
  congr 1
  by_cases c : wmWin V s p row[n] = true
  · simp [c]
  · simp [c]
theorem wmRow_len (V : List Int) (s : Int) (i : Nat) (p : Int) (row : List Int) (n : Nat) : (wmRow V s i p row n).length ≤ row.length := by
  unfold wmRow
  rw [List.length_map]
  refine Nat.le_trans (List.length_filter_le _ _) ?_
  rw [List.length_take]
  omega
def rowAt (g : List (List Int)) (p : Int) : List Int := g.getD p.toNat []
/-- The moves that win from the first i places. -/
def wmDone (g : List (List Int)) (V : List Int) (s : Int) (l : List Int) : Nat → List S88
  | 0 => []
  | i + 1 => wmDone g V s l i ++ wmRow V s i (rd l i) (rowAt g (rd l i)) (rowAt g (rd l i)).length
theorem wmDone_succ (g : List (List Int)) (V : List Int) (s : Int) (l : List Int) (i : Nat) : wmDone g V s l (i + 1) = wmDone g V s l i ++ wmRow V s i (rd l i) (rowAt g (rd l i)) (rowAt g (rd l i)).length := rfl
theorem wmDone_len (g : List (List Int)) (hv : validG g = true) (V : List Int) (s : Int) (l : List Int) : ∀ i, (wmDone g V s l i).length ≤ i * 60 := by
  intro i
  induction i with
  | zero => simp [wmDone]
  | succ i ih =>
    rw [wmDone_succ, List.length_append]
    have h1 := wmRow_len V s i (rd l i) (rowAt g (rd l i)) (rowAt g (rd l i)).length
    have h2 : (rowAt g (rd l i)).length ≤ 60 := by
      unfold rowAt
      have h3 := valid_len hv
      rw [List.getD_eq_getElem?_getD]
      by_cases c : (rd l (i : Int)).toNat < g.length
      · rw [List.getElem?_eq_getElem c]
        have := valid_row_len hv _ c
        simp only [Option.getD_some]
        omega
      · rw [List.getElem?_eq_none (by omega)]
        simp
    omega
theorem rowAt_nat {g : List (List Int)} {P : Nat} (h : P < g.length) : rowAt g (P : Int) = g[P] := by simp [rowAt, List.getD_eq_getElem?_getD, List.getElem?_eq_getElem h]
set_option maxHeartbeats 1000000 in
theorem spec_wm_loop (g : List (List Int)) (hv : validG g = true) (V : List Int) (hV : V.length = g.length) (s : Int) (l : List Int) (hl : l.length ≤ 12) (hp : ∀ p ∈ l, 0 ≤ p ∧ p ≤ (g.length : Int) - 1) :
    ∀ (d i : Nat), i + d = l.length → Ev (fun k => spec_WinningMoves.l0 k g l V s (wmDone g V s l i) (i : Int)) (wmDone g V s l l.length, 0) := by
  intro d
  induction d with
  | zero =>
    intro i h
    obtain rfl : i = l.length := by omega
    refine Ev_round ?_
    simp only [spec_WinningMoves.l0]
    exact Ev_neg (by omega) (Ev.now _)
  | succ d ih =>
    intro i h
    have hi : i < l.length := by omega
    have hpi := hp _ (List.getElem_mem hi)
    have nx := ih (i + 1) (by omega)
    obtain ⟨P, hP⟩ := Int.eq_ofNat_of_zero_le hpi.1
    have hr : rd l (i : Int) = (P : Int) := by rw [rd_nat hi]; exact hP
    have hPg : P < g.length := by omega
    have hg60 := valid_len hv
    have hrow := valid_row_len hv P hPg
    have hrx := valid_at hv P hPg
    have hro := rowAt_nat hPg
    have hrd := rdL2_nat hPg
    have hsz := wmDone_len g hv V s l i
    generalize g[P] = row at hrow hrx hro hrd
    have inner : ∀ (e n : Nat), n + e = row.length → Ev (fun k => spec_WinningMoves.l1 k g l V s (wmDone g V s l i ++ wmRow V s i (P : Int) row n) (i : Int) (P : Int) (n : Int)) (wmDone g V s l l.length, 0) := by
      intro e
      induction e with
      | zero =>
        intro n hn
        obtain rfl : n = row.length := by omega
        refine Ev_round ?_
        simp only [spec_WinningMoves.l1]
        rw [hrd]
        refine Ev_pos (by omega) (Ev_pos (by omega) (Ev_neg (by omega) ?_))
        rw [w64 (by omega) (by omega)]
        rw [wmDone_succ, hr, hro] at nx
        exact nx
      | succ e ihe =>
        intro n hn
        have hnr : n < row.length := by omega
        have hx := hrx _ (List.getElem_mem hnr)
        refine Ev_round ?_
        simp only [spec_WinningMoves.l1]
        have nx2 := ihe (n + 1) (by omega)
        rw [wmRow_succ V s i (P : Int) row n hnr] at nx2
        have h2 := wmRow_len V s i (P : Int) row n
        have hlen : (wmDone g V s l i ++ wmRow V s i (P : Int) row n).length < 8796093022208 := by rw [List.length_append]; omega
        rw [hrd, rd_nat hnr]
        generalize row[n] = t at hx nx2
        rw [w64 (x := t) (by omega) (by omega), w64 (x := (n : Int) + 1) (by omega) (by omega)]
        refine Ev_pos (by omega) (Ev_pos (by omega) (Ev_pos (by omega) (Ev_pos (by omega) (Ev_pos (by omega) (Ev_pos (by omega) (Ev_pos (by omega) ?_))))))
        by_cases c2 : X (X s (rd V (P : Int))) (rd V t) = 0
        · rw [if_pos (by unfold wmWin; rw [decide_eq_true c2]), ← List.append_assoc] at nx2
          exact Ev_pos c2 (Ev_pos hlen nx2)
        · rw [if_neg (by unfold wmWin; rw [decide_eq_false c2]; decide), List.append_nil] at nx2
          exact Ev_neg c2 nx2
    have hin := inner row.length 0 (by omega)
    rw [wmRow_zero, List.append_nil] at hin
    refine Ev_round ?_
    simp only [spec_WinningMoves.l0]
    refine Ev_pos (by omega) (Ev_pos (by omega) ?_)
    rw [hr]
    exact hin
/-- What WinningMoves tells. -/
def wmR (g : List (List Int)) (l : List Int) : List S88 × Int := if placedR g l = 0 then (wmDone g (GV g) (sumP (GV g) l) l l.length, 0) else ([], placedR g l)
theorem spec_wm_ev (g : List (List Int)) (hl : g.length ≤ 1048576) (hr : ∀ mv ∈ g, mv.length ≤ 1048576 ∧ ∀ x ∈ mv, -128 ≤ x ∧ x ≤ 127) (l : List Int) (hll : l.length ≤ 1048576) : Ev (fun k => spec_WinningMoves.f k g l) (wmR g l) := by
  have hs := placed_ev g hl hr l hll
  unfold wmR
  by_cases c : placedR g l = 0
  · obtain ⟨hv, h12, hp⟩ := placedR_zero c
    rw [if_pos c]
    exact Ev.bind hs (Ev_pos c (Ev.bind (spec_values_ev g hv) (Ev.bind (spec_sumP_ev _ l hll (fun p h => by have := hp p h; rw [GV_len]; omega)) (spec_wm_loop g hv (GV g) (GV_len g) _ l h12 hp l.length 0 (by omega)))))
  · rw [if_neg c]
    exact Ev.bind hs (Ev_neg c (Ev.now _))
theorem wmR_len (g : List (List Int)) (l : List Int) : (wmR g l).1.length ≤ 1000 := by
  unfold wmR
  by_cases c : placedR g l = 0
  · obtain ⟨hv, h12, _⟩ := placedR_zero c
    rw [if_pos c]
    have := wmDone_len g hv (GV g) (sumP (GV g) l) l l.length
    show (wmDone g (GV g) (sumP (GV g) l) l l.length).length ≤ 1000
    omega
  · rw [if_neg c]
    simp

theorem index_false_ev (fl : List Bool) (n : Nat) (hn : n < fl.length) (hl : fl.length ≤ 9223372036854775806) (h1 : fl[n] = false) (h2 : ∀ m (hm : m < n), fl[m] = true) :
    Ev (fun k => slices_Index_bool_bool.f k fl false) (n : Int) := by
  have main : ∀ (d m : Nat), m + d = n → Ev (fun k => slices_Index_bool_bool.l0 k fl false fl.length (m : Int)) (n : Int) := by
    intro d
    induction d with
    | zero =>
      intro m hm
      obtain rfl : m = n := by omega
      refine Ev_round ?_
      simp only [slices_Index_bool_bool.l0]
      refine Ev_pos (by omega) (Ev_pos (by omega) (Ev_pos (by omega) (Ev_pos ?_ (Ev.now _))))
      simp [rdOf, List.getD_eq_getElem?_getD, List.getElem?_eq_getElem hn, h1]
    | succ d ih =>
      intro m hm
      refine Ev_round ?_
      simp only [slices_Index_bool_bool.l0]
      refine Ev_pos (by omega) (Ev_pos (by omega) (Ev_pos (by omega) (Ev_neg ?_ ?_)))
      · simp [rdOf, List.getD_eq_getElem?_getD, List.getElem?_eq_getElem (show m < fl.length by omega), h2 m (by omega)]
      · rw [w64 (by omega) (by omega)]
        exact ih (m + 1) (by omega)
  exact main n 0 (by omega)

theorem mex_index (l : List Int) : (mexN l < (flags (l.length + 1) l).length) ∧ (∀ h, (flags (l.length + 1) l)[mexN l]'h = false) ∧ ∀ m (hm : m < mexN l) h, (flags (l.length + 1) l)[m]'h = true := by
  have hm := mexN_is l
  have hle := mexN_le l
  refine ⟨by rw [flags_length]; omega, fun h => ?_, fun m hlt h => ?_⟩
  · rw [flags_get]; simp [hm.1]
  · rw [flags_get]; simp [hm.2 m hlt]
theorem impl_mex_ev (l : List Int) (hl : l.length ≤ 140737488355327) (hr : ∀ x ∈ l, 0 ≤ x ∧ x ≤ 65535) : Ev (fun k => impl_mex.f k l) ((mexN l : Nat) : Int) := by
  have main : ∀ (d n : Nat), n + d = l.length → Ev (fun k => impl_mex.l0 k (flags (l.length + 1) (l.take n)) l l.length (n : Int)) ((mexN l : Nat) : Int) := by
    intro d
    induction d with
    | zero =>
      intro n h
      obtain rfl : n = l.length := by omega
      refine Ev_round ?_
      simp only [impl_mex.l0]
      refine Ev_neg (by omega) (Ev.bind ?_ (Ev.now _))
      rw [List.take_length]
      obtain ⟨a, b, c⟩ := mex_index l
      exact index_false_ev _ _ a (by rw [flags_length]; omega) (b a) (fun m hm => c m hm (by omega))
    | succ d ih =>
      intro n h
      have hn : n < l.length := by omega
      have hx := hr _ (List.getElem_mem hn)
      have ht : l.take (n + 1) = l.take n ++ [l[n]] := by rw [List.take_succ_eq_append_getElem hn]
      refine Ev_round ?_
      simp only [impl_mex.l0]
      refine Ev_pos (by omega) (Ev_pos (by omega) (Ev_pos (by omega) ?_))
      rw [rd_nat hn, w64 (by omega) (by omega), w64 (by omega) (by omega), flags_length]
      have nx := ih (n + 1) (by omega)
      rw [ht] at nx
      by_cases c : l[n] < ((l.length + 1 : Nat) : Int)
      · refine Ev_pos c (Ev_pos (by omega) (Ev_pos c ?_))
        rw [flags_set _ _ _ (by omega), Int.toNat_of_nonneg hx.1]
        exact nx
      · refine Ev_neg c ?_
        rw [flags_out _ _ _ (by omega)] at nx
        exact nx
  unfold impl_mex.f
  rw [w64 (by omega) (by omega)]
  refine Ev_pos (by omega) (Ev_pos (by omega) ?_)
  have := main l.length 0 (by omega)
  rw [List.take_zero, flags_nil] at this
  exact this

theorem impl_values_ev (g : List (List Int)) (h : validG g = true) : Ev (fun k => impl_Game_values.f k g) (GV g) := by
  have hl := valid_len h
  have outer : ∀ (d n : Nat), n + d = g.length → Ev (fun k => impl_Game_values.l0 k ((g.take n).foldl gvStep []) g g.length (n : Int)) (GV g) := by
    intro d
    induction d with
    | zero =>
      intro n hn
      obtain rfl : n = g.length := by omega
      refine Ev_round ?_
      simp only [impl_Game_values.l0]
      refine Ev_neg (by omega) (Ev_as (Ev.now _) ?_)
      rw [List.take_length]
      rfl
    | succ d ih =>
      intro n hn
      have hlt : n < g.length := by omega
      have nx := ih (n + 1) (by omega)
      rw [gvs_take n hlt] at nx
      have ho := gvs_len g n (by omega)
      have hr := gvs_range h n (by omega)
      generalize (g.take n).foldl gvStep [] = out at *
      have hx := valid_at h n hlt
      have hrl := valid_row_len h n hlt
      refine Ev_round ?_
      simp only [impl_Game_values.l0]
      refine Ev_pos (by omega) (Ev_pos (by omega) (Ev_pos (by omega) ?_))
      rw [rdL2_nat hlt]
      have inner : ∀ (e j : Nat), j + e = g[n].length → Ev (fun k => impl_Game_values.l1 k out ((g[n].take j).map (rd out)) g g.length (n : Int) g[n] g[n].length (j : Int)) (GV g) := by
        intro e
        induction e with
        | zero =>
          intro j hj
          obtain rfl : j = g[n].length := by omega
          refine Ev_round ?_
          simp only [impl_Game_values.l1]
          refine Ev_neg (by omega) ?_
          rw [List.take_length]
          have hm := mexN_le (g[n].map (rd out))
          simp only [List.length_map] at hm
          refine Ev.bind (impl_mex_ev _ (by simp; omega) (fun x hx' => ?_)) (Ev_pos (by omega) ?_)
          · obtain ⟨y, hy, rfl⟩ := List.mem_map.1 hx'
            obtain ⟨a, b⟩ := hx y hy
            have := hr _ (rd_mem (xs := out) a (by omega))
            omega
          · rw [wu16 (by omega) (by omega), w64 (by omega) (by omega)]
            exact nx
        | succ e ihe =>
          intro j hj
          have hjl : j < g[n].length := by omega
          obtain ⟨a, b⟩ := hx _ (List.getElem_mem hjl)
          refine Ev_round ?_
          simp only [impl_Game_values.l1]
          refine Ev_pos (by omega) (Ev_pos (by omega) (Ev_pos (by omega) ?_))
          rw [rd_nat hjl]
          refine Ev_pos a (Ev_pos (by omega) (Ev_pos (by simp; omega) ?_))
          rw [w64 (by omega) (by omega)]
          have := ihe (j + 1) (by omega)
          rw [List.take_succ_eq_append_getElem hjl, List.map_append] at this
          exact this
      exact inner g[n].length 0 (by omega)
  exact outer g.length 0 (by omega)

theorem impl_valid_ev (g : List (List Int)) (hl : g.length ≤ 1048576) (hr : ∀ mv ∈ g, mv.length ≤ 1048576 ∧ ∀ x ∈ mv, -128 ≤ x ∧ x ≤ 127) : Ev (fun k => impl_ValidGame.f k g) (validG g) := by
  -- the moves of one place, from one of them on
  have inner : ∀ (n : Nat) (hn : n < g.length) (r : Bool), Ev (fun k => impl_ValidGame.l0 k g g g.length ((n + 1 : Nat) : Int)) r →
      ∀ (d j : Nat) (p : Int), j + d = g[n].length → (j = 0 → p = -1) → (∀ h : 0 < j, ∀ h' : j - 1 < g[n].length, p = g[n][j - 1]) → -1 ≤ p →
        Ev (fun k => impl_ValidGame.l1 k g (n : Int) g[n] g g.length (n : Int) g[n] g[n].length (j : Int)) (okFrom n p (g[n].drop j) && r) := by
    intro n hn r hnext d
    have hmv := hr _ (List.getElem_mem hn)
    induction d with
    | zero =>
      intro j p h _ _ _
      obtain rfl : j = g[n].length := by omega
      refine Ev_round ?_
      simp only [impl_ValidGame.l1]
      refine Ev_neg (by omega) ?_
      rw [w64 (by omega) (by omega), List.drop_length]
      exact Ev_as hnext (by simp [okFrom])
    | succ d ih =>
      intro j p h h0 h1 hp
      have hj : j < g[n].length := by omega
      have hx := hmv.2 _ (List.getElem_mem hj)
      refine Ev_round ?_
      simp only [impl_ValidGame.l1]
      refine Ev_pos (by omega) (Ev_pos (by omega) (Ev_pos (by omega) ?_))
      rw [List.drop_eq_getElem_cons hj, rd_nat hj, w64 (by omega) (by omega), w64 (x := (n : Int) - 1) (by omega) (by omega)]
      unfold impl_within.f
      by_cases c0 : 0 ≤ g[n][j]
      · by_cases c1 : g[n][j] ≤ (n : Int) - 1
        · refine Ev_bind1 (if_pos c0) (Ev_pos (by simpa using c1) ?_)
          have e0 : wrap64 ((j : Int) + 1) = ((j + 1 : Nat) : Int) := by rw [w64 (by omega) (by omega)]; omega
          rw [e0]
          by_cases cj : (j : Int) > 0
          · have e1 : wrap64 ((j : Int) - 1) = ((j - 1 : Nat) : Int) := by rw [w64 (by omega) (by omega)]; omega
            rw [e1]
            refine Ev_pos cj (Ev_pos (by omega) (Ev_pos (by omega) ?_))
            rw [rd_nat (show j - 1 < g[n].length by omega)]
            have hpp := h1 (by omega) (by omega)
            by_cases c2 : g[n][j] ≤ g[n][j - 1]'(by omega)
            · refine Ev_pos c2 (Ev_as (Ev.now _) ?_)
              have : ¬ (p < g[n][j] ∧ 0 ≤ g[n][j] ∧ g[n][j] ≤ (n : Int) - 1) := by omega
              simp [okFrom, this]
            · refine Ev_neg c2 (Ev_as (ih (j + 1) g[n][j] (by omega) (by omega) (fun _ _ => by simp) (by omega)) ?_)
              have : p < g[n][j] ∧ 0 ≤ g[n][j] ∧ g[n][j] ≤ (n : Int) - 1 := by omega
              simp [okFrom, this]
          · refine Ev_neg cj (Ev_as (ih (j + 1) g[n][j] (by omega) (by omega) (fun _ _ => by simp) (by omega)) ?_)
            have hp0 := h0 (by omega)
            have : p < g[n][j] ∧ 0 ≤ g[n][j] ∧ g[n][j] ≤ (n : Int) - 1 := by omega
            simp [okFrom, this]
        · refine Ev_bind1 (if_pos c0) (Ev_neg (by simpa using c1) (Ev_as (Ev.now _) ?_))
          have : ¬ (p < g[n][j] ∧ 0 ≤ g[n][j] ∧ g[n][j] ≤ (n : Int) - 1) := by omega
          simp [okFrom, this]
      · refine Ev_bind1 (if_neg c0) (Ev_neg (by simp) (Ev_as (Ev.now _) ?_))
        have : ¬ (p < g[n][j] ∧ 0 ≤ g[n][j] ∧ g[n][j] ≤ (n : Int) - 1) := by omega
        simp [okFrom, this]
  have outer : ∀ (d n : Nat), n + d = g.length → Ev (fun k => impl_ValidGame.l0 k g g g.length (n : Int)) (okRows n (g.drop n) && decide (1 ≤ g.length ∧ g.length ≤ 60)) := by
    intro d
    induction d with
    | zero =>
      intro n h
      obtain rfl : n = g.length := by omega
      refine Ev_round ?_
      simp only [impl_ValidGame.l0]
      refine Ev_neg (by omega) ?_
      unfold impl_within.f
      rw [List.drop_length]
      by_cases c0 : 1 ≤ (g.length : Int)
      · refine Ev_bind1 (if_pos c0) (Ev_as (Ev.now _) ?_)
        simp only [okRows, Bool.true_and]
        apply decide_eq_decide.2
        omega
      · refine Ev_bind1 (if_neg c0) (Ev_as (Ev.now _) ?_)
        simp [okRows]
        omega
    | succ d ih =>
      intro n h
      have hn : n < g.length := by omega
      refine Ev_round ?_
      simp only [impl_ValidGame.l0]
      refine Ev_pos (by omega) (Ev_pos (by omega) (Ev_pos (by omega) ?_))
      rw [rdL2_nat hn, List.drop_eq_getElem_cons hn]
      refine Ev_as (inner n hn _ (ih (n + 1) (by omega)) g[n].length 0 (-1) (by omega) (fun _ => rfl) (fun h _ => by omega) (by omega)) ?_
      simp [okRows, Bool.and_assoc]
  exact Ev_as (outer g.length 0 (by omega)) (by simp [validG])

theorem okPlace_eq (G : Nat) (p : Int) (hG : G ≤ 1048576) : okPlace G p = decide (0 ≤ p ∧ p ≤ (G : Int) - 1) := by
  unfold okPlace
  rw [w64 (by omega) (by omega), Bool.decide_and]
/-- What placeCode answers. -/
def placeR (g : List (List Int)) (l : List Int) : Int := if validG g = true then (if (l.any fun p => !(decide (0 ≤ p ∧ p ≤ (g.length : Int) - 1))) = true then 2 else 0) else 1
theorem place_ev (g : List (List Int)) (hl : g.length ≤ 1048576) (hr : ∀ mv ∈ g, mv.length ≤ 1048576 ∧ ∀ x ∈ mv, -128 ≤ x ∧ x ≤ 127) (l : List Int) : Ev (fun k => impl_placeCode.f k g l) (placeR g l) := by
  unfold impl_placeCode.f placeR
  simp only [okPlace_eq _ _ hl]
  refine Ev.bind (impl_valid_ev g hl hr) ?_
  exact Ev_ite (fun _ => Ev_ite (fun _ => Ev.now _) (fun _ => Ev.now _)) (fun _ => Ev.now _)
theorem placeR_zero {g : List (List Int)} {l : List Int} (h : placeR g l = 0) : validG g = true ∧ ∀ p ∈ l, 0 ≤ p ∧ p ≤ (g.length : Int) - 1 := by
  unfold placeR at h
  by_cases c : validG g = true
  · rw [if_pos c] at h
    refine ⟨c, fun p hp => ?_⟩
    apply Classical.byContradiction
    intro hn
    rw [if_pos (List.any_eq_true.2 ⟨p, hp, by simp only [hn, decide_false, Bool.not_false]⟩)] at h
    exact absurd h (by decide)
  · rw [if_neg c] at h
    exact absurd h (by decide)

theorem sumCode_ev (g : List (List Int)) (hl : g.length ≤ 1048576) (hr : ∀ mv ∈ g, mv.length ≤ 1048576 ∧ ∀ x ∈ mv, -128 ≤ x ∧ x ≤ 127) (l : List Int) : Ev (fun k => impl_sumCode.f k g l) (placedR g l) := by
  unfold impl_sumCode.f
  refine Ev.bind (impl_valid_ev g hl hr) ?_
  have hp := place_ev g hl hr l
  unfold placeR at hp
  unfold placedR
  by_cases c : validG g = true
  · rw [if_pos c] at hp ⊢
    refine Ev_pos c ?_
    by_cases c2 : (l.length : Int) > 12
    · rw [if_pos c2]; exact Ev_pos c2 (Ev.now _)
    · rw [if_neg c2]; exact Ev_neg c2 (Ev.bind hp (Ev.now _))
  · rw [if_neg c] at hp ⊢
    exact Ev_neg c (Ev.bind hp (Ev.now _))

theorem impl_sumP_ev (vals l : List Int) (hl : l.length ≤ 1048576) (hp : ∀ p ∈ l, 0 ≤ p ∧ p < (vals.length : Int)) : Ev (fun k => impl_sumAt.f k vals l) (sumP vals l) :=
  fold_loop (L := fun k s i => impl_sumAt.l0 k vals s l l.length i) (f := fun s p => X s (rd vals p)) (fin := id) l (fun _ _ => True)
    (fun k s n h _ => by
      have := hp _ (List.getElem_mem h)
      simp only [impl_sumAt.l0]
      rw [rd_nat h, if_pos (by omega), if_pos (by omega), if_pos (by omega), if_pos this.1, if_pos this.2, w64 (by omega) (by omega)]
      rfl)
    (fun _ _ _ _ => trivial)
    (fun k s _ => by simp only [impl_sumAt.l0]; rw [if_neg (by omega)]; rfl) l.length 0 0 (by omega) trivial

set_option maxHeartbeats 1000000 in
theorem impl_wm_loop (g : List (List Int)) (hv : validG g = true) (V : List Int) (hV : V.length = g.length) (s : Int) (l : List Int) (hl : l.length ≤ 12) (hp : ∀ p ∈ l, 0 ≤ p ∧ p ≤ (g.length : Int) - 1) :
    ∀ (d i : Nat), i + d = l.length → Ev (fun k => impl_WinningMoves.l0 k g V (wmDone g V s l i) s l (l.length : Int) (i : Int)) (wmDone g V s l l.length, 0) := by
  intro d
  induction d with
  | zero =>
    intro i h
    obtain rfl : i = l.length := by omega
    refine Ev_round ?_
    simp only [impl_WinningMoves.l0]
    exact Ev_neg (by omega) (Ev.now _)
  | succ d ih =>
    intro i h
    have hi : i < l.length := by omega
    have hpi := hp _ (List.getElem_mem hi)
    have nx := ih (i + 1) (by omega)
    obtain ⟨P, hP⟩ := Int.eq_ofNat_of_zero_le hpi.1
    have hr : rd l (i : Int) = (P : Int) := by rw [rd_nat hi]; exact hP
    have hPg : P < g.length := by omega
    have hg60 := valid_len hv
    have hrow := valid_row_len hv P hPg
    have hrx := valid_at hv P hPg
    have hro := rowAt_nat hPg
    have hrd := rdL2_nat hPg
    have hsz := wmDone_len g hv V s l i
    generalize g[P] = row at hrow hrx hro hrd
    have inner : ∀ (e n : Nat), n + e = row.length → Ev (fun k => impl_WinningMoves.l1 k g V (wmDone g V s l i ++ wmRow V s i (P : Int) row n) s (i : Int) (P : Int) l (l.length : Int) (i : Int) row (row.length : Int) (n : Int)) (wmDone g V s l l.length, 0) := by
      intro e
      induction e with
      | zero =>
        intro n hn
        obtain rfl : n = row.length := by omega
        refine Ev_round ?_
        simp only [impl_WinningMoves.l1]
        refine Ev_neg (by omega) ?_
        rw [w64 (by omega) (by omega)]
        rw [wmDone_succ, hr, hro] at nx
        exact nx
      | succ e ihe =>
        intro n hn
        have hnr : n < row.length := by omega
        have hx := hrx _ (List.getElem_mem hnr)
        refine Ev_round ?_
        simp only [impl_WinningMoves.l1]
        have nx2 := ihe (n + 1) (by omega)
        rw [wmRow_succ V s i (P : Int) row n hnr] at nx2
        have h2 := wmRow_len V s i (P : Int) row n
        have hlen : (wmDone g V s l i ++ wmRow V s i (P : Int) row n).length < 8796093022208 := by rw [List.length_append]; omega
        rw [rd_nat hnr]
        generalize row[n] = t at hx nx2
        rw [w64 (x := t) (by omega) (by omega), w64 (x := (n : Int) + 1) (by omega) (by omega)]
        refine Ev_pos (by omega) (Ev_pos (by omega) (Ev_pos (by omega) (Ev_pos (by omega) (Ev_pos (by omega) (Ev_pos (by omega) (Ev_pos (by omega) ?_))))))
        by_cases c2 : X (X s (rd V (P : Int))) (rd V t) = 0
        · rw [if_pos (by unfold wmWin; rw [decide_eq_true c2]), ← List.append_assoc] at nx2
          exact Ev_pos c2 (Ev_pos hlen nx2)
        · rw [if_neg (by unfold wmWin; rw [decide_eq_false c2]; decide), List.append_nil] at nx2
          exact Ev_neg c2 nx2
    have hin := inner row.length 0 (by omega)
    rw [wmRow_zero, List.append_nil] at hin
    refine Ev_round ?_
    simp only [impl_WinningMoves.l0]
    refine Ev_pos (by omega) (Ev_pos (by omega) (Ev_pos (by omega) (Ev_pos (by omega) (Ev_pos (by omega) ?_))))
    rw [hr, hrd]
    exact hin
theorem impl_wm_ev (g : List (List Int)) (hl : g.length ≤ 1048576) (hr : ∀ mv ∈ g, mv.length ≤ 1048576 ∧ ∀ x ∈ mv, -128 ≤ x ∧ x ≤ 127) (l : List Int) (hll : l.length ≤ 1048576) : Ev (fun k => impl_WinningMoves.f k g l) (wmR g l) := by
  have hs := sumCode_ev g hl hr l
  unfold wmR
  by_cases c : placedR g l = 0
  · obtain ⟨hv, h12, hp⟩ := placedR_zero c
    rw [if_pos c]
    exact Ev.bind hs (Ev_pos c (Ev.bind (impl_values_ev g hv) (Ev.bind (impl_sumP_ev _ l hll (fun p h => by have := hp p h; rw [GV_len]; omega)) (impl_wm_loop g hv (GV g) (GV_len g) _ l h12 hp l.length 0 (by omega)))))
  · rw [if_neg c]
    exact Ev.bind hs (Ev_neg c (Ev.now _))

theorem rdP {xs : List S88} {n : Nat} (h : n < xs.length) : rd_T88 xs (n : Int) = xs[n] := by simp [rd_T88, List.getD_eq_getElem?_getD, List.getElem?_eq_getElem h]
theorem eqPairs_ev (xs : List S88) (hn : xs.length ≤ 1099511627776) : Ev (fun k => laws_eqInt64A2S.f k xs xs) true := by
  have main : ∀ (d n : Nat), n + d = xs.length → Ev (fun k => laws_eqInt64A2S.l0 k xs xs (n : Int)) true := by
    intro d
    induction d with
    | zero =>
      intro n h
      refine Ev_round ?_
      simp only [laws_eqInt64A2S.l0]
      exact Ev_neg (by omega) (Ev.now _)
    | succ d ih =>
      intro n h
      refine Ev_round ?_
      simp only [laws_eqInt64A2S.l0]
      refine Ev_pos (by omega) (Ev_pos (by omega) (Ev_pos (by omega) (Ev_bind1 (a := true) (by unfold laws_eqInt64A2.f; rw [if_pos rfl, if_pos rfl]) (Ev_pos rfl ?_))))
      rw [w64 (by omega) (by omega)]
      exact ih (n + 1) (by omega)
  exact Ev_pos rfl (main xs.length 0 (by omega))

theorem markInt64S_from (xs : List Int) (a : Int) (ha : 0 ≤ a) (hn : a + (xs.length : Int) ≤ 9223372036854775806) : ∃ ys, ys.length = xs.length ∧ Ev (fun k => laws_markInt64S.f k xs a) (a + (xs.length : Int), ys) := by
  have main : ∀ (d n : Nat) (ys : List Int), n + d = ys.length → ys.length = xs.length → ∃ zs, zs.length = xs.length ∧ Ev (fun k => laws_markInt64S.l0 k ys (a + (n : Int)) (n : Int)) (a + (xs.length : Int), zs) := by
    intro d
    induction d with
    | zero =>
      intro n ys h1 h2
      refine ⟨ys, h2, Ev_round ?_⟩
      simp only [laws_markInt64S.l0]
      exact Ev_neg (by omega) (Ev_as (Ev.now _) (by rw [show n = xs.length by omega]))
    | succ d ih =>
      intro n ys h1 h2
      obtain ⟨zs, hz, he⟩ := ih (n + 1) (ys.set n (a + (n : Int))) (by simp; omega) (by simpa using h2)
      refine ⟨zs, hz, Ev_round ?_⟩
      simp only [laws_markInt64S.l0]
      refine Ev_pos (by omega) (Ev_pos (by omega) ?_)
      rw [w64 (by omega) (by omega), w64 (by omega) (by omega), Int.toNat_natCast]
      rw [show a + (n : Int) + 1 = a + ((n + 1 : Nat) : Int) by omega]
      exact he
  have h0 := main xs.length 0 xs (by omega) rfl
  rw [show a + ((0 : Nat) : Int) = a by omega] at h0
  exact h0
theorem markInt64S_ev (xs : List Int) (hn : xs.length ≤ 1048576) : ∃ ys, ys.length = xs.length ∧ Ev (fun k => laws_markInt64S.f k xs 1) (1 + (xs.length : Int), ys) := markInt64S_from xs 1 (by omega) (by omega)

theorem marked_len (n : Nat) (k0 : Int) : (laws_markInt64A2S.marked n k0).length = n := by simp [laws_markInt64A2S.marked]
theorem markPairs (xs : List S88) (hn : xs.length ≤ 1099511627776) : laws_markInt64A2S.f xs 1 = some (1 + (xs.length : Int) * 2, laws_markInt64A2S.marked xs.length 1) := by
  unfold laws_markInt64A2S.f
  rw [if_pos (by omega), if_pos (by omega), if_pos (by omega)]

theorem heldPairs (n : Nat) (hn : n ≤ 1099511627776) : laws_heldInt64A2S.f (laws_markInt64A2S.marked n 1) 1 = some (1 + (n : Int) * 2, laws_markInt64A2S.marked n 1) := by
  unfold laws_heldInt64A2S.f
  rw [marked_len, if_pos (by simp [laws_markInt64A2S.marked, Go.Proofs.Ytbhjkaiiebpopaa.Pairs.marks]), if_pos (by omega), if_pos (by omega), if_pos (by omega)]

/-- How many numbers a game has; what it holds when it was marked from a on. -/
def tot : List (List Int) → Int
  | [] => 0
  | x :: t => (x.length : Int) + tot t
def mgRows : Int → List (List Int) → List (List Int)
  | _, [] => []
  | a, x :: t => markG .i8 a x.length :: mgRows (a + (x.length : Int)) t
theorem tot_pos : ∀ g : List (List Int), 0 ≤ tot g := by
  intro g
  induction g with
  | nil => simp [tot]
  | cons x t ih => unfold tot; omega

theorem markRows_ev : ∀ (g : List (List Int)) (a : Int), 0 ≤ a → a + tot g ≤ 9223372036854775806 → Ev (fun k => laws_markGame.f k g a) (a + tot g, mgRows a g) := by
  intro g
  unfold laws_markGame.f
  induction g with
  | nil => intro a _ _; exact Ev_as (Ev.now _) (by simp [tot, mgRows])
  | cons x t ih =>
    intro a ha hb
    have h0 := tot_pos t
    unfold tot at hb
    refine Ev.bind (markInt8S_ev x a ha (by omega)) (Ev.bind (ih (a + (x.length : Int)) (by omega) (by omega)) (Ev_as (Ev.now _) ?_))
    have e2 : a + tot (x :: t) = a + (x.length : Int) + tot t := by show a + ((x.length : Int) + tot t) = _; omega
    rw [e2]
    rfl

theorem tot_le : ∀ g : List (List Int), (∀ x ∈ g, x.length ≤ 1048576) → tot g ≤ 1048576 * (g.length : Int) := by
  intro g
  induction g with
  | nil => intro _; simp [tot]
  | cons x t ih =>
    intro h
    have h1 := h x (by simp)
    have h2 := ih (fun y hy => h y (by simp [hy]))
    unfold tot
    rw [List.length_cons]
    omega
theorem FnExactWinningMoves (g : List (List Int)) (l : List Int) (hg : g.length ≤ maxLen) (hr : ∀ mv ∈ g, mv.length ≤ maxLen ∧ ∀ x ∈ mv, (Lit.int .i8 x).wf = true) (hl : l.length ≤ maxLen) (hw : ∀ x ∈ l, (Lit.int .i64 x).wf = true) : ∃ k, laws_FnExactWinningMoves.f k g l = some true := by
  refine Ev.rounds (r := true) ?_
  by_cases cl : 1048576 < (l.length : Int)
  · exact Ev_pos cl (Ev.now _)
  refine Ev_neg cl ?_
  obtain ⟨r, h1, _, h3⟩ := szGame_ev g hg (fun mv hm => (hr mv hm).1) 1048576 ⟨by omega, by omega⟩
  refine Ev.bind h1 ?_
  by_cases c : r < 0
  · exact Ev_pos c (Ev.now _)
  obtain ⟨hl1, hl2⟩ := h3 (by omega)
  have hv : ∀ mv ∈ g, mv.length ≤ 1048576 ∧ ∀ x ∈ mv, -128 ≤ x ∧ x ≤ 127 := fun mv hm => ⟨hl2 mv hm, fun x hx => wf_i8 ((hr mv hm).2 x hx)⟩
  have hs := spec_wm_ev g hl1 hv l (by omega)
  have hi := impl_wm_ev g hl1 hv l (by omega)
  have hln := wmR_len g l
  generalize wmR g l = R at *
  obtain ⟨V, er⟩ := R
  simp only at hln
  have ht := tot_le g (fun x hx => hl2 x hx)
  have hp := tot_pos g
  have ht2 : 1048576 * (g.length : Int) ≤ 1048576 * 1048576 := by omega
  obtain ⟨ys, _, hm1⟩ := markInt64S_from l (1 + tot g) (by omega) (by omega)
  refine Ev_neg c (Ev.bind (toGame_ev g hl1 hl2) (Ev.bind (eqGame_ev g g hl1 hl2) (Ev.bind (markRows_ev g 1 (by omega) (by omega)) ?_)))
  refine Ev.bind (toInt64S_ev l (by omega)) (Ev.bind (eqInt64S_ev l l (by omega)) (Ev.bind hm1 (Ev.bind hs (Ev.bind hi (Ev.bind (eqPairs_ev V (by omega)) (Ev_bind1 (markPairs V (by omega)) (Ev_bind1 (heldPairs V.length (by omega)) ?_)))))))
  exact Ev_pos ⟨rfl, by simp, rfl, by simp, by simp only; omega, rfl, rfl, by simp only; omega, rfl, rfl, rfl⟩ (Ev.now _)

end Go.Proofs.Ytbhjkaiiebpopaa.Pure
