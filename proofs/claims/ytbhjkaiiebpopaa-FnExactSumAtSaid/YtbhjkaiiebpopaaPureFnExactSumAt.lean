/- FnExactSumAt: the printed pure statement holds: at every input the law's function answers true; no condition but the bounds of its kinds. -/
import Derived.Test.YtbhjkaiiebpopaaQFnExactSumAtx5
import Derived.Test.YtbhjkaiiebpopaaLib
import Derived.Test.YtbhjkaiiebpopaaLib3
set_option linter.unusedVariables false
set_option linter.unusedSimpArgs false
namespace Go.Proofs.Ytbhjkaiiebpopaa.Pure
open Go.RowKit Go.Proofs.Ytbhjkaiiebpopaa.QFnExactSumAt Go.Proofs.YtbhjkaiiebpopaaW.PrintWords Go.Proofs.YtbhjkaiiebpopaaW.PrintLast Go.Proofs.Ytbhjkaiiebpopaa.Lib

theorem rdL2_nat {g : List (List Int)} {n : Nat} (h : n < g.length) : rd_L1 g (n : Int) = g[n] := by simp [rd_L1, List.getD_eq_getElem?_getD, List.getElem?_eq_getElem h]

theorem szInt8S_eq (xs : List Int) (a : Int) (hx : xs.length ≤ maxLen) (ha : 0 ≤ a ∧ a ≤ 1048576) : ∃ r, laws_szInt8S.f xs a = some r ∧ r ≤ 1048576 ∧ (0 ≤ r → xs.length ≤ 1048576) := by
  unfold maxLen at hx
  unfold laws_szInt8S.f
  rw [w64 (by omega) (by omega)]
  by_cases c : a - (xs.length : Int) < 0
  · exact ⟨-1, if_pos c, by omega, by omega⟩
  · exact ⟨_, if_neg c, by omega, by omega⟩

theorem szGame_ev (g : List (List Int)) (hg : g.length ≤ maxLen) (hr : ∀ mv ∈ g, mv.length ≤ maxLen) (a : Int) (ha : 0 ≤ a ∧ a ≤ 1048576) :
    ∃ r, Ev (fun k => laws_szGame.f k g a) r ∧ r ≤ 1048576 ∧ (0 ≤ r → g.length ≤ 1048576 ∧ ∀ mv ∈ g, mv.length ≤ 1048576) := by
  unfold maxLen at hg
  unfold laws_szGame.f
  rw [w64 (by omega) (by omega)]
  by_cases c : a - (g.length : Int) < 0
  · exact ⟨-1, Ev_pos c (Ev.now _), by omega, by omega⟩
  · have main : ∀ (d n : Nat) (b : Int), n + d = g.length → 0 ≤ b → b ≤ 1048576 → ∃ r, Ev (fun k => laws_szGame.l0 k g b (n : Int)) r ∧ r ≤ 1048576 ∧ (0 ≤ r → ∀ mv ∈ g.drop n, mv.length ≤ 1048576) := by
      intro d
      induction d with
      | zero =>
        intro n b h h0 h1
        obtain rfl : n = g.length := by omega
        refine ⟨b, Ev_round ?_, h1, by simp⟩
        simp only [laws_szGame.l0]
        exact Ev_neg (by omega) (Ev.now _)
      | succ d ih =>
        intro n b h h0 h1
        have hn : n < g.length := by omega
        obtain ⟨r, hr1, hr2, hr3⟩ := szInt8S_eq g[n] b (hr _ (List.getElem_mem hn)) ⟨h0, h1⟩
        by_cases cr : r < 0
        · refine ⟨-1, Ev_round ?_, by omega, by omega⟩
          simp only [laws_szGame.l0]
          refine Ev_pos (by omega) (Ev_pos (by omega) ?_)
          rw [rdL2_nat hn]
          exact Ev_bind1 hr1 (Ev_pos cr (Ev.now _))
        · obtain ⟨q, hq1, hq2, hq3⟩ := ih (n + 1) r (by omega) (by omega) hr2
          refine ⟨q, Ev_round ?_, hq2, fun hq => ?_⟩
          · simp only [laws_szGame.l0]
            refine Ev_pos (by omega) (Ev_pos (by omega) ?_)
            rw [rdL2_nat hn, w64 (by omega) (by omega)]
            exact Ev_bind1 hr1 (Ev_neg cr hq1)
          · rw [List.drop_eq_getElem_cons hn]
            intro mv hmv
            rcases List.mem_cons.1 hmv with rfl | hmv
            · exact hr3 (by omega)
            · exact hq3 hq mv hmv
    obtain ⟨r, h1, h2, h3⟩ := main g.length 0 (a - g.length) (by omega) (by omega) (by omega)
    exact ⟨r, Ev_neg c h1, h2, fun h => ⟨by omega, by simpa using h3 h⟩⟩

theorem toInt8S_ev (xs : List Int) (hn : xs.length ≤ 1048576) : Ev (fun k => laws_toInt8S.f k xs) xs :=
  copy_any (L := laws_toInt8S.l0) 281474976710656 (fun _ _ _ _ => rfl) xs (by omega) (by omega)

theorem toGame_ev (g : List (List Int)) (hg : g.length ≤ 1048576) (hr : ∀ mv ∈ g, mv.length ≤ 1048576) : Ev (fun k => laws_toGame.f k g) g := by
  have main : ∀ (d n : Nat) (ys : List (List Int)), n + d = g.length → ys.length = g.length → ys.take n = g.take n → Ev (fun k => laws_toGame.l0 k g ys (n : Int)) g := by
    intro d
    induction d with
    | zero =>
      intro n ys h1 h2 h3
      refine Ev_round ?_
      simp only [laws_toGame.l0]
      refine Ev_neg (by omega) (Ev_as (Ev.now _) ?_)
      rw [List.take_of_length_le (by omega), List.take_of_length_le (by omega)] at h3
      exact h3
    | succ d ih =>
      intro n ys h1 h2 h3
      have hn : n < g.length := by omega
      refine Ev_round ?_
      simp only [laws_toGame.l0]
      refine Ev_pos (by omega) (Ev_pos (by omega) ?_)
      rw [rdL2_nat hn]
      refine Ev.bind (toInt8S_ev _ (hr _ (List.getElem_mem hn))) (Ev_pos (by omega) ?_)
      rw [w64 (by omega) (by omega), Int.toNat_natCast]
      refine ih (n + 1) (ys.set n g[n]) (by omega) (by simpa using h2) ?_
      rw [List.take_succ_eq_append_getElem (by simp; omega), List.take_succ_eq_append_getElem hn, List.take_set_of_le (by omega), h3]
      simp
  refine Ev_pos (by omega) (Ev_pos (by omega) (main g.length 0 _ (by omega) (by simp) (by simp)))

theorem eqInt8S_ev (xs ys : List Int) (hn : xs.length ≤ 140737488355328) : Ev (fun k => laws_eqInt8S.f k xs ys) (decide (xs = ys)) :=
  eq_all (L := laws_eqInt8S.l0) (fun _ _ _ _ => rfl) xs ys (by omega)

theorem eqGame_ev (g h : List (List Int)) (hg : g.length ≤ 1048576) (hr : ∀ mv ∈ g, mv.length ≤ 1048576) : Ev (fun k => laws_eqGame.f k g h) (decide (g = h)) := by
  by_cases hl : g.length = h.length
  · have main : ∀ (d n : Nat), n + d = g.length → g.take n = h.take n → Ev (fun k => laws_eqGame.l0 k g h (n : Int)) (decide (g = h)) := by
      intro d
      induction d with
      | zero =>
        intro n h1 h3
        refine Ev_round ?_
        simp only [laws_eqGame.l0]
        refine Ev_neg (by omega) (Ev_as (Ev.now _) ?_)
        rw [List.take_of_length_le (by omega), List.take_of_length_le (by omega)] at h3
        simp [h3]
      | succ d ih =>
        intro n h1 h3
        have hn : n < g.length := by omega
        have hm : n < h.length := by omega
        refine Ev_round ?_
        simp only [laws_eqGame.l0]
        refine Ev_pos (by omega) (Ev_pos (by omega) (Ev_pos (by omega) ?_))
        rw [rdL2_nat hn, rdL2_nat hm, w64 (by omega) (by omega)]
        refine Ev.bind (eqInt8S_ev _ _ (by have := hr _ (List.getElem_mem hn); omega)) ?_
        by_cases e : g[n] = h[n]
        · refine Ev_pos (by simp [e]) (ih (n + 1) (by omega) ?_)
          rw [List.take_succ_eq_append_getElem hn, List.take_succ_eq_append_getElem hm, h3, e]
        · refine Ev_neg (by simp [e]) (Ev_as (Ev.now _) ?_)
          have : g ≠ h := fun x => e (by subst x; rfl)
          simp [this]
    exact Ev_pos (by omega) (main g.length 0 (by omega) (by simp))
  · refine Ev_neg (by omega) (Ev_as (Ev.now _) ?_)
    have : g ≠ h := fun e => hl (by rw [e])
    simp [this]

theorem least_ev (l : List Int) (hl : l.length ≤ 65535) (hr : ∀ x ∈ l, 0 ≤ x ∧ x ≤ 65535) : Ev (fun k => spec_l03Least.f k l) ((mexN l : Nat) : Int) := by
  have hm := mexN_is l
  have hle := mexN_le l
  have last : ∀ (d n : Nat), n + d = mexN l → Ev (fun k => spec_l03Least.l1 k (flags (l.length + 1) l) (n : Int)) ((mexN l : Nat) : Int) := by
    intro d
    induction d with
    | zero =>
      intro n h
      obtain rfl : n = mexN l := by omega
      refine Ev_round ?_
      simp only [spec_l03Least.l1]
      refine Ev_pos (by omega) (Ev_pos (by rw [flags_length]; omega) (Ev_neg ?_ ?_))
      · rw [rdOf, List.getD_eq_getElem?_getD, List.getElem?_eq_getElem (by rw [Int.toNat_natCast, flags_length]; omega), Option.getD_some, flags_get]
        simp [hm.1]
      · rw [wu16 (by omega) (by omega)]
        exact Ev.now _
    | succ d ih =>
      intro n h
      refine Ev_round ?_
      simp only [spec_l03Least.l1]
      refine Ev_pos (by omega) (Ev_pos (by rw [flags_length]; omega) (Ev_pos ?_ ?_))
      · rw [rdOf, List.getD_eq_getElem?_getD, List.getElem?_eq_getElem (by rw [Int.toNat_natCast, flags_length]; omega), Option.getD_some, flags_get]
        simp [hm.2 n (by omega)]
      · rw [w64 (by omega) (by omega)]
        exact ih (n + 1) (by omega)
  have main : ∀ (d n : Nat), n + d = l.length → Ev (fun k => spec_l03Least.l0 k l (flags (l.length + 1) (l.take n)) (n : Int)) ((mexN l : Nat) : Int) := by
    intro d
    induction d with
    | zero =>
      intro n h
      obtain rfl : n = l.length := by omega
      refine Ev_round ?_
      simp only [spec_l03Least.l0]
      refine Ev_neg (by omega) ?_
      rw [List.take_length]
      exact last (mexN l) 0 (by omega)
    | succ d ih =>
      intro n h
      have hn : n < l.length := by omega
      have hx := hr _ (List.getElem_mem hn)
      have ht : l.take (n + 1) = l.take n ++ [l[n]] := by rw [List.take_succ_eq_append_getElem hn]
      refine Ev_round ?_
      simp only [spec_l03Least.l0]
      refine Ev_pos (by omega) (Ev_pos (by omega) ?_)
      rw [rd_nat hn, w64 (by omega) (by omega), w64 (by omega) (by omega), flags_length]
      have nx := ih (n + 1) (by omega)
      rw [ht] at nx
      by_cases c : l[n] < ((l.length + 1 : Nat) : Int)
      · refine Ev_pos c (Ev_pos (by omega) (Ev_pos c ?_))
        rw [flags_set _ _ _ (by omega), Int.toNat_of_nonneg hx.1]
        exact nx
      · refine Ev_neg c ?_
        rw [flags_out _ _ _ (by omega)] at nx
        exact nx
  unfold spec_l03Least.f
  rw [w64 (by omega) (by omega)]
  refine Ev_pos (by omega) (Ev_pos (by omega) ?_)
  have := main l.length 0 (by omega)
  rw [List.take_zero, flags_nil] at this
  exact this

theorem spec_values_ev (g : List (List Int)) (h : validG g = true) : Ev (fun k => spec_l03Values.f k g) (GV g) := by
  have hl := valid_len h
  have outer : ∀ (d n : Nat), n + d = g.length → Ev (fun k => spec_l03Values.l0 k g ((g.take n).foldl gvStep []) (n : Int)) (GV g) := by
    intro d
    induction d with
    | zero =>
      intro n hn
      obtain rfl : n = g.length := by omega
      refine Ev_round ?_
      simp only [spec_l03Values.l0]
      refine Ev_neg (by omega) (Ev_as (Ev.now _) ?_)
      rw [List.take_length]
      rfl
    | succ d ih =>
      intro n hn
      have hlt : n < g.length := by omega
      have nx := ih (n + 1) (by omega)
      rw [gvs_take n hlt] at nx
      have ho := gvs_len g n (by omega)
      have hr := gvs_range h n (by omega)
      generalize (g.take n).foldl gvStep [] = out at *
      have hx := valid_at h n hlt
      have hrl := valid_row_len h n hlt
      refine Ev_round ?_
      simp only [spec_l03Values.l0]
      refine Ev_pos (by omega) ?_
      have inner : ∀ (e j : Nat), j + e = g[n].length → Ev (fun k => spec_l03Values.l1 k g out (n : Int) ((g[n].take j).map (rd out)) (j : Int)) (GV g) := by
        intro e
        induction e with
        | zero =>
          intro j hj
          obtain rfl : j = g[n].length := by omega
          refine Ev_round ?_
          simp only [spec_l03Values.l1]
          rw [rdL2_nat hlt, List.take_length]
          refine Ev_pos (by omega) (Ev_pos (by omega) (Ev_neg (by omega) (Ev.bind (least_ev _ (by simp; omega) (fun x hx' => ?_)) (Ev_pos (by omega) ?_))))
          · obtain ⟨y, hy, rfl⟩ := List.mem_map.1 hx'
            obtain ⟨a, b⟩ := hx y hy
            have := hr _ (rd_mem (xs := out) a (by omega))
            omega
          · rw [w64 (by omega) (by omega)]
            exact nx
        | succ e ihe =>
          intro j hj
          have hjl : j < g[n].length := by omega
          obtain ⟨a, b⟩ := hx _ (List.getElem_mem hjl)
          refine Ev_round ?_
          simp only [spec_l03Values.l1]
          rw [rdL2_nat hlt, rd_nat hjl]
          refine Ev_pos (by omega) (Ev_pos (by omega) (Ev_pos (by omega) (Ev_pos (by omega) (Ev_pos a (Ev_pos (by omega) (Ev_pos (by simp; omega) ?_))))))
          rw [w64 (by omega) (by omega)]
          have := ihe (j + 1) (by omega)
          rw [List.take_succ_eq_append_getElem hjl, List.map_append] at this
          exact this
      exact inner g[n].length 0 (by omega)
  exact outer g.length 0 (by omega)

theorem spec_ok_ev (g : List (List Int)) (hl : g.length ≤ 1048576) (hr : ∀ mv ∈ g, mv.length ≤ 1048576 ∧ ∀ x ∈ mv, -128 ≤ x ∧ x ≤ 127) : Ev (fun k => spec_l03Ok.f k g) (validG g) := by
  have inner : ∀ (n : Nat) (hn : n < g.length) (r : Bool), Ev (fun k => spec_l03Ok.l0 k g ((n + 1 : Nat) : Int)) r →
      ∀ (d j : Nat) (p : Int), j + d = g[n].length → -1 ≤ p → p ≤ 127 → Ev (fun k => spec_l03Ok.l1 k g (n : Int) p (j : Int)) (okFrom n p (g[n].drop j) && r) := by
    intro n hn r hnext d
    have hmv := hr _ (List.getElem_mem hn)
    induction d with
    | zero =>
      intro j p h hp hp1
      obtain rfl : j = g[n].length := by omega
      refine Ev_round ?_
      simp only [spec_l03Ok.l1]
      rw [rdL2_nat hn]
      refine Ev_pos (by omega) (Ev_pos (by omega) (Ev_neg (by omega) ?_))
      rw [w64 (by omega) (by omega), List.drop_length]
      exact Ev_as hnext (by simp [okFrom])
    | succ d ih =>
      intro j p h hp hp1
      have hj : j < g[n].length := by omega
      have hx := hmv.2 _ (List.getElem_mem hj)
      refine Ev_round ?_
      simp only [spec_l03Ok.l1]
      rw [rdL2_nat hn]
      refine Ev_pos (by omega) (Ev_pos (by omega) (Ev_pos (by omega) (Ev_pos (by omega) ?_)))
      have e0 : wrap64 ((j : Int) + 1) = ((j + 1 : Nat) : Int) := by rw [w64 (by omega) (by omega)]; omega
      rw [List.drop_eq_getElem_cons hj, rd_nat hj, e0, w64 (x := g[n][j]) (by omega) (by omega), w64 (x := (n : Int) - 1) (by omega) (by omega), w64 (x := p + 1) (by omega) (by omega)]
      unfold spec_l00In.f
      by_cases c : p < g[n][j] ∧ 0 ≤ g[n][j] ∧ g[n][j] ≤ (n : Int) - 1
      · refine Ev_bind1 (if_pos (by omega)) (Ev_pos (by simp; omega) (Ev_as (ih (j + 1) _ (by omega) (by omega) (by omega)) ?_))
        simp [okFrom, c]
      · by_cases c0 : g[n][j] ≥ p + 1
        · refine Ev_bind1 (if_pos c0) (Ev_neg (by simp; omega) (Ev_as (Ev.now _) ?_))
          simp [okFrom, c]
        · refine Ev_bind1 (if_neg c0) (Ev_neg (by simp) (Ev_as (Ev.now _) ?_))
          simp [okFrom, c]
  have outer : ∀ (d n : Nat), n + d = g.length → Ev (fun k => spec_l03Ok.l0 k g (n : Int)) (okRows n (g.drop n) && decide (1 ≤ g.length ∧ g.length ≤ 60)) := by
    intro d
    induction d with
    | zero =>
      intro n h
      obtain rfl : n = g.length := by omega
      refine Ev_round ?_
      simp only [spec_l03Ok.l0]
      refine Ev_neg (by omega) ?_
      unfold spec_l00In.f
      rw [List.drop_length]
      by_cases c0 : (g.length : Int) ≥ 1
      · refine Ev_bind1 (if_pos c0) (Ev_as (Ev.now _) ?_)
        simp only [okRows, Bool.true_and]
        apply decide_eq_decide.2
        omega
      · refine Ev_bind1 (if_neg c0) (Ev_as (Ev.now _) ?_)
        simp [okRows]
        omega
    | succ d ih =>
      intro n h
      have hn : n < g.length := by omega
      refine Ev_round ?_
      simp only [spec_l03Ok.l0]
      refine Ev_pos (by omega) ?_
      rw [List.drop_eq_getElem_cons hn]
      refine Ev_as (inner n hn _ (ih (n + 1) (by omega)) g[n].length 0 (-1) (by omega) (by omega) (by omega)) ?_
      simp [okRows, Bool.and_assoc]
  exact Ev_as (outer g.length 0 (by omega)) (by simp [validG])

/-- What is told of a game and places. -/
def placedR (g : List (List Int)) (l : List Int) : Int := if validG g = true then (if (l.length : Int) > 12 then 3 else (if (l.any fun p => !(decide (0 ≤ p ∧ p ≤ (g.length : Int) - 1))) = true then 2 else 0)) else 1
theorem placed_ev (g : List (List Int)) (hl : g.length ≤ 1048576) (hr : ∀ mv ∈ g, mv.length ≤ 1048576 ∧ ∀ x ∈ mv, -128 ≤ x ∧ x ≤ 127) (l : List Int) (hll : l.length ≤ 1048576) : Ev (fun k => spec_l03Placed.f k g l) (placedR g l) := by
  have main : ∀ (d n : Nat), n + d = l.length → Ev (fun k => spec_l03Placed.l0 k g l (n : Int)) (if ((l.drop n).any fun p => !(decide (0 ≤ p ∧ p ≤ (g.length : Int) - 1))) = true then 2 else 0) := by
    intro d
    induction d with
    | zero =>
      intro n h
      obtain rfl : n = l.length := by omega
      refine Ev_round ?_
      simp only [spec_l03Placed.l0]
      rw [List.drop_length]
      exact Ev_neg (by omega) (Ev_as (Ev.now _) (by simp))
    | succ d ih =>
      intro n h
      have hn : n < l.length := by omega
      refine Ev_round ?_
      simp only [spec_l03Placed.l0]
      rw [List.drop_eq_getElem_cons hn, rd_nat hn, w64 (x := (g.length : Int) - 1) (by omega) (by omega), w64 (by omega) (by omega), List.any_cons]
      refine Ev_pos (by omega) (Ev_pos (by omega) ?_)
      unfold spec_l00In.f
      by_cases c : 0 ≤ l[n] ∧ l[n] ≤ (g.length : Int) - 1
      · refine Ev_bind1 (if_pos c.1) (Ev_pos (by simpa using c.2) (Ev_as (ih (n + 1) (by omega)) ?_))
        simp only [c, and_self, decide_true, Bool.not_true, Bool.false_or]
      · have e : (!(decide (0 ≤ l[n] ∧ l[n] ≤ (g.length : Int) - 1))) = true := by simp only [c, decide_false, Bool.not_false]
        rw [e, Bool.true_or]
        by_cases c0 : l[n] ≥ 0
        · exact Ev_bind1 (if_pos c0) (Ev_neg (by simp; omega) (Ev.now _))
        · exact Ev_bind1 (if_neg c0) (Ev_neg (by simp) (Ev.now _))
  unfold spec_l03Placed.f placedR
  refine Ev.bind (spec_ok_ev g hl hr) (Ev_ite (fun _ => Ev_ite (fun _ => Ev.now _) (fun _ => ?_)) (fun _ => Ev.now _))
  exact main l.length 0 (by omega)
theorem placedR_zero {g : List (List Int)} {l : List Int} (h : placedR g l = 0) : validG g = true ∧ l.length ≤ 12 ∧ ∀ p ∈ l, 0 ≤ p ∧ p ≤ (g.length : Int) - 1 := by
  unfold placedR at h
  by_cases c : validG g = true
  · rw [if_pos c] at h
    by_cases c2 : (l.length : Int) > 12
    · rw [if_pos c2] at h
      exact absurd h (by decide)
    · rw [if_neg c2] at h
      refine ⟨c, by omega, fun p hp => ?_⟩
      apply Classical.byContradiction
      intro hn
      rw [if_pos (List.any_eq_true.2 ⟨p, hp, by simp only [hn, decide_false, Bool.not_false]⟩)] at h
      exact absurd h (by decide)
  · rw [if_neg c] at h
    exact absurd h (by decide)

/-- The sum of the values of places. -/
def sumP (vals l : List Int) : Int := l.foldl (fun s p => X s (rd vals p)) 0
theorem spec_sumP_ev (vals l : List Int) (hl : l.length ≤ 1048576) (hp : ∀ p ∈ l, 0 ≤ p ∧ p < (vals.length : Int)) : Ev (fun k => spec_l03Sum.f k vals l) (sumP vals l) :=
  fold_loop (L := fun k s i => spec_l03Sum.l0 k vals l s i) (f := fun s p => X s (rd vals p)) (fin := id) l (fun _ _ => True)
    (fun k s n h _ => by
      have := hp _ (List.getElem_mem h)
      simp only [spec_l03Sum.l0]
      rw [rd_nat h, if_pos (by omega), if_pos (by omega), if_pos this.1, if_pos this.2, w64 (by omega) (by omega)]
      rfl)
    (fun _ _ _ _ => trivial)
    (fun k s _ => by simp only [spec_l03Sum.l0]; rw [if_neg (by omega)]; rfl) l.length 0 0 (by omega) trivial

theorem toInt64S_ev (xs : List Int) (hn : xs.length ≤ 1048576) : Ev (fun k => laws_toInt64S.f k xs) xs :=
  copy_any (L := laws_toInt64S.l0) 35184372088832 (fun _ _ _ _ => rfl) xs (by omega) (by omega)

theorem index_false_ev (fl : List Bool) (n : Nat) (hn : n < fl.length) (hl : fl.length ≤ 9223372036854775806) (h1 : fl[n] = false) (h2 : ∀ m (hm : m < n), fl[m] = true) :
    Ev (fun k => slices_Index_bool_bool.f k fl false) (n : Int) := by
  have main : ∀ (d m : Nat), m + d = n → Ev (fun k => slices_Index_bool_bool.l0 k fl false fl.length (m : Int)) (n : Int) := by
    intro d
    induction d with
    | zero =>
      intro m hm
      obtain rfl : m = n := by omega
      refine Ev_round ?_
      simp only [slices_Index_bool_bool.l0]
      refine Ev_pos (by omega) (Ev_pos (by omega) (Ev_pos (by omega) (Ev_pos ?_ (Ev.now _))))
      simp [rdOf, List.getD_eq_getElem?_getD, List.getElem?_eq_getElem hn, h1]
    | succ d ih =>
      intro m hm
      refine Ev_round ?_
      simp only [slices_Index_bool_bool.l0]
      refine Ev_pos (by omega) (Ev_pos (by omega) (Ev_pos (by omega) (Ev_neg ?_ ?_)))
      · simp [rdOf, List.getD_eq_getElem?_getD, List.getElem?_eq_getElem (show m < fl.length by omega), h2 m (by omega)]
      · rw [w64 (by omega) (by omega)]
        exact ih (m + 1) (by omega)
  exact main n 0 (by omega)

theorem mex_index (l : List Int) : (mexN l < (flags (l.length + 1) l).length) ∧ (∀ h, (flags (l.length + 1) l)[mexN l]'h = false) ∧ ∀ m (hm : m < mexN l) h, (flags (l.length + 1) l)[m]'h = true := by
  have hm := mexN_is l
  have hle := mexN_le l
  refine ⟨by rw [flags_length]; omega, fun h => ?_, fun m hlt h => ?_⟩
  · rw [flags_get]; simp [hm.1]
  · rw [flags_get]; simp [hm.2 m hlt]
theorem impl_mex_ev (l : List Int) (hl : l.length ≤ 140737488355327) (hr : ∀ x ∈ l, 0 ≤ x ∧ x ≤ 65535) : Ev (fun k => impl_mex.f k l) ((mexN l : Nat) : Int) := by
  have main : ∀ (d n : Nat), n + d = l.length → Ev (fun k => impl_mex.l0 k (flags (l.length + 1) (l.take n)) l l.length (n : Int)) ((mexN l : Nat) : Int) := by
    intro d
    induction d with
    | zero =>
      intro n h
      obtain rfl : n = l.length := by omega
      refine Ev_round ?_
      simp only [impl_mex.l0]
      refine Ev_neg (by omega) (Ev.bind ?_ (Ev.now _))
      rw [List.take_length]
      obtain ⟨a, b, c⟩ := mex_index l
      exact index_false_ev _ _ a (by rw [flags_length]; omega) (b a) (fun m hm => c m hm (by omega))
    | succ d ih =>
      intro n h
      have hn : n < l.length := by omega
      have hx := hr _ (List.getElem_mem hn)
      have ht : l.take (n + 1) = l.take n ++ [l[n]] := by rw [List.take_succ_eq_append_getElem hn]
      refine Ev_round ?_
      simp only [impl_mex.l0]
      refine Ev_pos (by omega) (Ev_pos (by omega) (Ev_pos (by omega) ?_))
      rw [rd_nat hn, w64 (by omega) (by omega), w64 (by omega) (by omega), flags_length]
      have nx := ih (n + 1) (by omega)
      rw [ht] at nx
      by_cases c : l[n] < ((l.length + 1 : Nat) : Int)
      · refine Ev_pos c (Ev_pos (by omega) (Ev_pos c ?_))
        rw [flags_set _ _ _ (by omega), Int.toNat_of_nonneg hx.1]
        exact nx
      · refine Ev_neg c ?_
        rw [flags_out _ _ _ (by omega)] at nx
        exact nx
  unfold impl_mex.f
  rw [w64 (by omega) (by omega)]
  refine Ev_pos (by omega) (Ev_pos (by omega) ?_)
  have := main l.length 0 (by omega)
  rw [List.take_zero, flags_nil] at this
  exact this

theorem impl_values_ev (g : List (List Int)) (h : validG g = true) : Ev (fun k => impl_Game_values.f k g) (GV g) := by
  have hl := valid_len h
  have outer : ∀ (d n : Nat), n + d = g.length → Ev (fun k => impl_Game_values.l0 k ((g.take n).foldl gvStep []) g g.length (n : Int)) (GV g) := by
    intro d
    induction d with
    | zero =>
      intro n hn
      obtain rfl : n = g.length := by omega
      refine Ev_round ?_
      simp only [impl_Game_values.l0]
      refine Ev_neg (by omega) (Ev_as (Ev.now _) ?_)
      rw [List.take_length]
      rfl
    | succ d ih =>
      intro n hn
      have hlt : n < g.length := by omega
      have nx := ih (n + 1) (by omega)
      rw [gvs_take n hlt] at nx
      have ho := gvs_len g n (by omega)
      have hr := gvs_range h n (by omega)
      generalize (g.take n).foldl gvStep [] = out at *
      have hx := valid_at h n hlt
      have hrl := valid_row_len h n hlt
      refine Ev_round ?_
      simp only [impl_Game_values.l0]
      refine Ev_pos (by omega) (Ev_pos (by omega) (Ev_pos (by omega) ?_))
      rw [rdL2_nat hlt]
      have inner : ∀ (e j : Nat), j + e = g[n].length → Ev (fun k => impl_Game_values.l1 k out ((g[n].take j).map (rd out)) g g.length (n : Int) g[n] g[n].length (j : Int)) (GV g) := by
        intro e
        induction e with
        | zero =>
          intro j hj
          obtain rfl : j = g[n].length := by omega
          refine Ev_round ?_
          simp only [impl_Game_values.l1]
          refine Ev_neg (by omega) ?_
          rw [List.take_length]
          have hm := mexN_le (g[n].map (rd out))
          simp only [List.length_map] at hm
          refine Ev.bind (impl_mex_ev _ (by simp; omega) (fun x hx' => ?_)) (Ev_pos (by omega) ?_)
          · obtain ⟨y, hy, rfl⟩ := List.mem_map.1 hx'
            obtain ⟨a, b⟩ := hx y hy
            have := hr _ (rd_mem (xs := out) a (by omega))
            omega
          · rw [wu16 (by omega) (by omega), w64 (by omega) (by omega)]
            exact nx
        | succ e ihe =>
          intro j hj
          have hjl : j < g[n].length := by omega
          obtain ⟨a, b⟩ := hx _ (List.getElem_mem hjl)
          refine Ev_round ?_
          simp only [impl_Game_values.l1]
          refine Ev_pos (by omega) (Ev_pos (by omega) (Ev_pos (by omega) ?_))
          rw [rd_nat hjl]
          refine Ev_pos a (Ev_pos (by omega) (Ev_pos (by simp; omega) ?_))
          rw [w64 (by omega) (by omega)]
          have := ihe (j + 1) (by omega)
          rw [List.take_succ_eq_append_getElem hjl, List.map_append] at this
          exact this
      exact inner g[n].length 0 (by omega)
  exact outer g.length 0 (by omega)

theorem impl_valid_ev (g : List (List Int)) (hl : g.length ≤ 1048576) (hr : ∀ mv ∈ g, mv.length ≤ 1048576 ∧ ∀ x ∈ mv, -128 ≤ x ∧ x ≤ 127) : Ev (fun k => impl_ValidGame.f k g) (validG g) := by
  -- the moves of one place, from one of them on
  have inner : ∀ (n : Nat) (hn : n < g.length) (r : Bool), Ev (fun k => impl_ValidGame.l0 k g g g.length ((n + 1 : Nat) : Int)) r →
      ∀ (d j : Nat) (p : Int), j + d = g[n].length → (j = 0 → p = -1) → (∀ h : 0 < j, ∀ h' : j - 1 < g[n].length, p = g[n][j - 1]) → -1 ≤ p →
        Ev (fun k => impl_ValidGame.l1 k g (n : Int) g[n] g g.length (n : Int) g[n] g[n].length (j : Int)) (okFrom n p (g[n].drop j) && r) := by
    intro n hn r hnext d
    have hmv := hr _ (List.getElem_mem hn)
    induction d with
    | zero =>
      intro j p h _ _ _
      obtain rfl : j = g[n].length := by omega
      refine Ev_round ?_
      simp only [impl_ValidGame.l1]
      refine Ev_neg (by omega) ?_
      rw [w64 (by omega) (by omega), List.drop_length]
      exact Ev_as hnext (by simp [okFrom])
    | succ d ih =>
      intro j p h h0 h1 hp
      have hj : j < g[n].length := by omega
      have hx := hmv.2 _ (List.getElem_mem hj)
      refine Ev_round ?_
      simp only [impl_ValidGame.l1]
      refine Ev_pos (by omega) (Ev_pos (by omega) (Ev_pos (by omega) ?_))
      rw [List.drop_eq_getElem_cons hj, rd_nat hj, w64 (by omega) (by omega), w64 (x := (n : Int) - 1) (by omega) (by omega)]
      unfold impl_within.f
      by_cases c0 : 0 ≤ g[n][j]
      · by_cases c1 : g[n][j] ≤ (n : Int) - 1
        · refine Ev_bind1 (if_pos c0) (Ev_pos (by simpa using c1) ?_)
          have e0 : wrap64 ((j : Int) + 1) = ((j + 1 : Nat) : Int) := by rw [w64 (by omega) (by omega)]; omega
          rw [e0]
          by_cases cj : (j : Int) > 0
          · have e1 : wrap64 ((j : Int) - 1) = ((j - 1 : Nat) : Int) := by rw [w64 (by omega) (by omega)]; omega
            rw [e1]
            refine Ev_pos cj (Ev_pos (by omega) (Ev_pos (by omega) ?_))
            rw [rd_nat (show j - 1 < g[n].length by omega)]
            have hpp := h1 (by omega) (by omega)
            by_cases c2 : g[n][j] ≤ g[n][j - 1]'(by omega)
            · refine Ev_pos c2 (Ev_as (Ev.now _) ?_)
              have : ¬ (p < g[n][j] ∧ 0 ≤ g[n][j] ∧ g[n][j] ≤ (n : Int) - 1) := by omega
              simp [okFrom, this]
            · refine Ev_neg c2 (Ev_as (ih (j + 1) g[n][j] (by omega) (by omega) (fun _ _ => by simp) (by omega)) ?_)
              have : p < g[n][j] ∧ 0 ≤ g[n][j] ∧ g[n][j] ≤ (n : Int) - 1 := by omega
              simp [okFrom, this]
          · refine Ev_neg cj (Ev_as (ih (j + 1) g[n][j] (by omega) (by omega) (fun _ _ => by simp) (by omega)) ?_)
            have hp0 := h0 (by omega)
            have : p < g[n][j] ∧ 0 ≤ g[n][j] ∧ g[n][j] ≤ (n : Int) - 1 := by omega
            simp [okFrom, this]
        · refine Ev_bind1 (if_pos c0) (Ev_neg (by simpa using c1) (Ev_as (Ev.now _) ?_))
          have : ¬ (p < g[n][j] ∧ 0 ≤ g[n][j] ∧ g[n][j] ≤ (n : Int) - 1) := by omega
          simp [okFrom, this]
      · refine Ev_bind1 (if_neg c0) (Ev_neg (by simp) (Ev_as (Ev.now _) ?_))
        have : ¬ (p < g[n][j] ∧ 0 ≤ g[n][j] ∧ g[n][j] ≤ (n : Int) - 1) := by omega
        simp [okFrom, this]
  have outer : ∀ (d n : Nat), n + d = g.length → Ev (fun k => impl_ValidGame.l0 k g g g.length (n : Int)) (okRows n (g.drop n) && decide (1 ≤ g.length ∧ g.length ≤ 60)) := by
    intro d
    induction d with
    | zero =>
      intro n h
      obtain rfl : n = g.length := by omega
      refine Ev_round ?_
      simp only [impl_ValidGame.l0]
      refine Ev_neg (by omega) ?_
      unfold impl_within.f
      rw [List.drop_length]
      by_cases c0 : 1 ≤ (g.length : Int)
      · refine Ev_bind1 (if_pos c0) (Ev_as (Ev.now _) ?_)
        simp only [okRows, Bool.true_and]
        apply decide_eq_decide.2
        omega
      · refine Ev_bind1 (if_neg c0) (Ev_as (Ev.now _) ?_)
        simp [okRows]
        omega
    | succ d ih =>
      intro n h
      have hn : n < g.length := by omega
      refine Ev_round ?_
      simp only [impl_ValidGame.l0]
      refine Ev_pos (by omega) (Ev_pos (by omega) (Ev_pos (by omega) ?_))
      rw [rdL2_nat hn, List.drop_eq_getElem_cons hn]
      refine Ev_as (inner n hn _ (ih (n + 1) (by omega)) g[n].length 0 (-1) (by omega) (fun _ => rfl) (fun h _ => by omega) (by omega)) ?_
      simp [okRows, Bool.and_assoc]
  exact Ev_as (outer g.length 0 (by omega)) (by simp [validG])

theorem okPlace_eq (G : Nat) (p : Int) (hG : G ≤ 1048576) : okPlace G p = decide (0 ≤ p ∧ p ≤ (G : Int) - 1) := by
  unfold okPlace
  rw [w64 (by omega) (by omega), Bool.decide_and]
/-- What placeCode answers. -/
def placeR (g : List (List Int)) (l : List Int) : Int := if validG g = true then (if (l.any fun p => !(decide (0 ≤ p ∧ p ≤ (g.length : Int) - 1))) = true then 2 else 0) else 1
theorem place_ev (g : List (List Int)) (hl : g.length ≤ 1048576) (hr : ∀ mv ∈ g, mv.length ≤ 1048576 ∧ ∀ x ∈ mv, -128 ≤ x ∧ x ≤ 127) (l : List Int) : Ev (fun k => impl_placeCode.f k g l) (placeR g l) := by
  unfold impl_placeCode.f placeR
  simp only [okPlace_eq _ _ hl]
  refine Ev.bind (impl_valid_ev g hl hr) ?_
  exact Ev_ite (fun _ => Ev_ite (fun _ => Ev.now _) (fun _ => Ev.now _)) (fun _ => Ev.now _)
theorem placeR_zero {g : List (List Int)} {l : List Int} (h : placeR g l = 0) : validG g = true ∧ ∀ p ∈ l, 0 ≤ p ∧ p ≤ (g.length : Int) - 1 := by
  unfold placeR at h
  by_cases c : validG g = true
  · rw [if_pos c] at h
    refine ⟨c, fun p hp => ?_⟩
    apply Classical.byContradiction
    intro hn
    rw [if_pos (List.any_eq_true.2 ⟨p, hp, by simp only [hn, decide_false, Bool.not_false]⟩)] at h
    exact absurd h (by decide)
  · rw [if_neg c] at h
    exact absurd h (by decide)

theorem sumCode_ev (g : List (List Int)) (hl : g.length ≤ 1048576) (hr : ∀ mv ∈ g, mv.length ≤ 1048576 ∧ ∀ x ∈ mv, -128 ≤ x ∧ x ≤ 127) (l : List Int) : Ev (fun k => impl_sumCode.f k g l) (placedR g l) := by
  unfold impl_sumCode.f
  refine Ev.bind (impl_valid_ev g hl hr) ?_
  have hp := place_ev g hl hr l
  unfold placeR at hp
  unfold placedR
  by_cases c : validG g = true
  · rw [if_pos c] at hp ⊢
    refine Ev_pos c ?_
    by_cases c2 : (l.length : Int) > 12
    · rw [if_pos c2]; exact Ev_pos c2 (Ev.now _)
    · rw [if_neg c2]; exact Ev_neg c2 (Ev.bind hp (Ev.now _))
  · rw [if_neg c] at hp ⊢
    exact Ev_neg c (Ev.bind hp (Ev.now _))

theorem impl_sumP_ev (vals l : List Int) (hl : l.length ≤ 1048576) (hp : ∀ p ∈ l, 0 ≤ p ∧ p < (vals.length : Int)) : Ev (fun k => impl_sumAt.f k vals l) (sumP vals l) :=
  fold_loop (L := fun k s i => impl_sumAt.l0 k vals s l l.length i) (f := fun s p => X s (rd vals p)) (fin := id) l (fun _ _ => True)
    (fun k s n h _ => by
      have := hp _ (List.getElem_mem h)
      simp only [impl_sumAt.l0]
      rw [rd_nat h, if_pos (by omega), if_pos (by omega), if_pos (by omega), if_pos this.1, if_pos this.2, w64 (by omega) (by omega)]
      rfl)
    (fun _ _ _ _ => trivial)
    (fun k s _ => by simp only [impl_sumAt.l0]; rw [if_neg (by omega)]; rfl) l.length 0 0 (by omega) trivial

theorem eqInt64S_ev (xs ys : List Int) (hn : xs.length ≤ 140737488355328) : Ev (fun k => laws_eqInt64S.f k xs ys) (decide (xs = ys)) :=
  eq_all (L := laws_eqInt64S.l0) (fun _ _ _ _ => rfl) xs ys (by omega)

theorem both (g : List (List Int)) (hl : g.length ≤ 1048576) (hr : ∀ mv ∈ g, mv.length ≤ 1048576 ∧ ∀ x ∈ mv, -128 ≤ x ∧ x ≤ 127) (l : List Int) (hll : l.length ≤ 1048576) :
    ∃ r, Ev (fun k => spec_SumAt.f k g l) r ∧ Ev (fun k => impl_SumAt.f k g l) r := by
  have hs := placed_ev g hl hr l hll
  have hi := sumCode_ev g hl hr l
  by_cases c : placedR g l = 0
  · obtain ⟨hv, _, hp⟩ := placedR_zero c
    have hp2 : ∀ p ∈ l, 0 ≤ p ∧ p < ((GV g).length : Int) := fun p h => by have := hp p h; rw [GV_len]; omega
    exact ⟨_, Ev.bind hs (Ev_pos c (Ev.bind (spec_values_ev g hv) (Ev.bind (spec_sumP_ev _ l hll hp2) (Ev.now _)))), Ev.bind hi (Ev_pos c (Ev.bind (impl_values_ev g hv) (Ev.bind (impl_sumP_ev _ l hll hp2) (Ev.now _))))⟩
  · exact ⟨_, Ev.bind hs (Ev_neg c (Ev.now _)), Ev.bind hi (Ev_neg c (Ev.now _))⟩
theorem FnExactSumAt (g : List (List Int)) (l : List Int) (hg : g.length ≤ maxLen) (hr : ∀ mv ∈ g, mv.length ≤ maxLen ∧ ∀ x ∈ mv, (Lit.int .i8 x).wf = true) (hl : l.length ≤ maxLen) (hw : ∀ x ∈ l, (Lit.int .i64 x).wf = true) : ∃ k, laws_FnExactSumAt.f k g l = some true := by
  refine Ev.rounds (r := true) ?_
  by_cases cl : (l.length : Int) > 1048576
  · exact Ev_pos cl (Ev.now _)
  refine Ev_neg cl ?_
  obtain ⟨r, h1, _, h3⟩ := szGame_ev g hg (fun mv hm => (hr mv hm).1) 1048576 ⟨by omega, by omega⟩
  refine Ev.bind h1 ?_
  by_cases c : r < 0
  · exact Ev_pos c (Ev.now _)
  · obtain ⟨hl1, hl2⟩ := h3 (by omega)
    have hv : ∀ mv ∈ g, mv.length ≤ 1048576 ∧ ∀ x ∈ mv, -128 ≤ x ∧ x ≤ 127 := fun mv hm => ⟨hl2 mv hm, fun x hx => wf_i8 ((hr mv hm).2 x hx)⟩
    obtain ⟨a, a1, a2⟩ := both g hl1 hv l (by omega)
    refine Ev_neg c (Ev.bind (toGame_ev g hl1 hl2) (Ev.bind (toInt64S_ev l (by omega)) (Ev.bind a1 (Ev.bind (toGame_ev g hl1 hl2) (Ev.bind (toInt64S_ev l (by omega)) (Ev.bind a2 ?_))))))
    refine Ev_pos rfl (Ev_round (Ev_neg (by simp) ?_))
    refine Ev.bind (toGame_ev g hl1 hl2) (Ev.bind (eqGame_ev g g hl1 hl2) (Ev_pos (by simp) ?_))
    exact Ev.bind (toInt64S_ev l (by omega)) (Ev.bind (eqInt64S_ev l l (by omega)) (Ev_pos (by simp) (Ev.now _)))

end Go.Proofs.Ytbhjkaiiebpopaa.Pure
