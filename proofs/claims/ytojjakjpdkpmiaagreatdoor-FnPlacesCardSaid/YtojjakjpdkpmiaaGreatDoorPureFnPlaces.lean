/- FnPlaces: the printed pure statement holds: at every input the law's function answers true; no condition but the bounds of its kinds. -/
import Derived.Test.YtojjakjpdkpmiaaGreatDoorQFnPlacesx11
import Derived.Test.YtojjakjpdkpmiaaGreatDoorLib
import Derived.Test.YtojjakjpdkpmiaaGreatDoorLib3
set_option linter.unusedVariables false
set_option linter.unusedSimpArgs false
namespace Go.Proofs.YtojjakjpdkpmiaaGreatDoor.Pure
open Go.RowKit Go.Proofs.YtojjakjpdkpmiaaGreatDoor.QFnPlaces Go.Proofs.YtojjakjpdkpmiaaGreatDoorW.PrintWords Go.Proofs.YtojjakjpdkpmiaaGreatDoorW.PrintLast Go.Proofs.YtojjakjpdkpmiaaGreatDoor.Lib

theorem rdL2_nat {g : List (List Int)} {n : Nat} (h : n < g.length) : rd_L2 g (n : Int) = g[n] := by simp [rd_L2, List.getD_eq_getElem?_getD, List.getElem?_eq_getElem h]

theorem seed_range (x : Int) : 0 ≤ IntKind.u64.wrap x ∧ IntKind.u64.wrap x ≤ 18446744073709551615 := by rw [IntKind.wrap_u64]; omega
theorem low8 (x : Int) : 0 ≤ wrap64 (Go.bits .and .u64 (IntKind.u64.wrap x / 1099511627776) 255) ∧ wrap64 (Go.bits .and .u64 (IntKind.u64.wrap x / 1099511627776) 255) ≤ 255 := by
  have h := seed_range x
  generalize IntKind.u64.wrap x = y at h
  have hd : 0 ≤ y / 1099511627776 ∧ y / 1099511627776 < 18446744073709551616 := by omega
  generalize y / 1099511627776 = z at hd
  rw [u64_and z 255 hd.1 hd.2 (by omega) (by omega)]
  have : z.toNat &&& (255 : Int).toNat ≤ 255 := Nat.and_le_right
  rw [w64 (by omega) (by omega)]
  omega
/-- A byte is drawn. -/
theorem next_ok (bs : List Int) (hb : ∀ x ∈ bs, 0 ≤ x ∧ x ≤ 255) (hl : bs.length ≤ 4096) (i : Nat) (hi : i ≤ 1000000) (sd : Int) : ∃ v sd', spec_l00Src_next.f bs (i : Int) sd = some (v, ((i + 1 : Nat) : Int), sd') ∧ 0 ≤ v ∧ v ≤ 255 := by
  unfold spec_l00Src_next.f
  have e1 : wrap64 ((i : Int) + 1) = ((i + 1 : Nat) : Int) := by rw [w64 (by omega) (by omega)]; omega
  rw [e1]
  by_cases c : i < bs.length
  · rw [if_pos (by omega), if_pos (by omega)]
    have hv := hb _ (rd_mem (xs := bs) (i := (i : Int)) (by omega) (by omega))
    rw [if_pos (by omega)]
    refine ⟨_, _, rfl, ?_⟩
    rw [w64 (by omega) (by omega)]
    exact hv
  · rw [if_neg (by omega), if_neg (by omega)]
    exact ⟨_, _, rfl, low8 _⟩

/-- A number below n is drawn. -/
theorem pick_ok (bs : List Int) (hb : ∀ x ∈ bs, 0 ≤ x ∧ x ≤ 255) (hl : bs.length ≤ 4096) (i : Nat) (hi : i ≤ 1000000) (sd : Int) (n : Int) (h1 : 1 < n) (h2 : n ≤ 200) : ∃ v sd', spec_l00Src_pick.f bs (i : Int) sd n = some (v, ((i + 1 : Nat) : Int), sd') ∧ 0 ≤ v ∧ v < n := by
  obtain ⟨v, sd', h, h3, h4⟩ := next_ok bs hb hl i hi sd
  unfold spec_l00Src_pick.f
  rw [if_neg (by omega), h]
  simp only [Option.bind_some]
  rw [if_neg (by omega), if_neg (by omega)]
  refine ⟨_, _, rfl, ?_⟩
  rw [Int.tmod_eq_emod_of_nonneg h3]
  exact ⟨Int.emod_nonneg _ (by omega), Int.emod_lt_of_pos _ (by omega)⟩

theorem one_ok (bs : List Int) (hb : ∀ x ∈ bs, 0 ≤ x ∧ x ≤ 255) (hl : bs.length ≤ 4096) (i : Nat) (hi : i ≤ 1000000) (sd : Int) (n : Int) (h1 : 1 < n) (h2 : n ≤ 200) : ∃ v sd', spec_l00Src_one.f bs (i : Int) sd n = some (v, ((i + 1 : Nat) : Int), sd') := by
  obtain ⟨v, sd', h, _, _⟩ := pick_ok bs hb hl i hi sd n h1 h2
  unfold spec_l00Src_one.f
  rw [h]
  exact ⟨_, _, rfl⟩
theorem okRows_snoc : ∀ (g : List (List Int)) (i : Nat) (mv : List Int), okRows i g = true → okFrom ((i + g.length : Nat) : Int) (-1) mv = true → okRows i (g ++ [mv]) = true := by
  intro g
  induction g with
  | nil => intro i mv _ h; simpa [okRows] using h
  | cons x t ih =>
    intro i mv h h2
    rw [List.cons_append]
    simp only [okRows, Bool.and_eq_true] at h ⊢
    refine ⟨h.1, ih (i + 1) mv h.2 ?_⟩
    rw [List.length_cons] at h2
    rw [show i + 1 + t.length = i + (t.length + 1) by omega]
    exact h2
theorem okFrom_of {i : Int} : ∀ {mv : List Int} {p : Int}, mv.Pairwise (· < ·) → (∀ x ∈ mv, p < x ∧ 0 ≤ x ∧ x ≤ i - 1) → okFrom i p mv = true := by
  intro mv
  induction mv with
  | nil => intro p _ _; rfl
  | cons y t ih =>
    intro p h hx
    rw [List.pairwise_cons] at h
    simp only [okFrom, Bool.and_eq_true, decide_eq_true_eq]
    refine ⟨hx y (by simp), ih h.2 (fun x hm => ?_)⟩
    have h1 := h.1 x hm
    have h2 := hx x (by simp [hm])
    omega
theorem dr_end (rows : List (List Int)) (P n od : Int) (bs : List Int) (pos sd : Int) (h : ¬ n < P) : Ev (fun k => spec_l03Drawn.l0 k rows P od n bs pos sd) (rows, pos, sd) := by
  refine Ev_round ?_
  simp only [spec_l03Drawn.l0]
  exact Ev_neg (by omega) (Ev.now _)
theorem dr_go (rows : List (List Int)) (P n od : Int) (bs : List Int) (pos sd : Int) (h : n < P) (r) (h1 : Ev (fun k => spec_l03Drawn.l1 k rows P od n [] 0 bs pos sd) r) : Ev (fun k => spec_l03Drawn.l0 k rows P od n bs pos sd) r := by
  refine Ev_round ?_
  simp only [spec_l03Drawn.l0]
  refine Ev_pos (by omega) ?_
  exact h1
theorem dr_row (rows : List (List Int)) (P od : Int) (n : Nat) (mv bs : List Int) (pos sd : Int) (hn : n ≤ 60) (r) (hq : rows.length < 5864062014805) (h1 : Ev (fun k => spec_l03Drawn.l0 k (rows ++ [mv]) P od ((n + 1 : Nat) : Int) bs pos sd) r) : Ev (fun k => spec_l03Drawn.l1 k rows P od (n : Int) mv (n : Int) bs pos sd) r := by
  have e2 : wrap64 ((n : Int) + 1) = ((n + 1 : Nat) : Int) := by rw [w64 (by omega) (by omega)]; omega
  refine Ev_round ?_
  simp only [spec_l03Drawn.l1]
  rw [e2]
  refine Ev_neg (by omega) (Ev_pos hq ?_)
  exact h1
theorem dr_no (rows : List (List Int)) (P n od : Int) (j : Nat) (mv bs : List Int) (pos sd pos' sd' : Int) (hj : j ≤ 60) (h : (j : Int) < n) (r) (e1 : spec_l00Src_one.f bs pos sd od = some (false, pos', sd')) (h1 : Ev (fun k => spec_l03Drawn.l1 k rows P od n mv ((j + 1 : Nat) : Int) bs pos' sd') r) : Ev (fun k => spec_l03Drawn.l1 k rows P od n mv (j : Int) bs pos sd) r := by
  have e2 : wrap64 ((j : Int) + 1) = ((j + 1 : Nat) : Int) := by rw [w64 (by omega) (by omega)]; omega
  refine Ev_round ?_
  simp only [spec_l03Drawn.l1]
  rw [e1, e2]
  simp only [Option.bind_some, Bool.false_eq_true, if_false]
  refine Ev_pos (by omega) ?_
  exact h1
theorem dr_yes (rows : List (List Int)) (P n od : Int) (j : Nat) (mv bs : List Int) (pos sd pos' sd' : Int) (hj : j ≤ 60) (h : (j : Int) < n) (r) (hq : mv.length < 140737488355328) (e1 : spec_l00Src_one.f bs pos sd od = some (true, pos', sd')) (h1 : Ev (fun k => spec_l03Drawn.l1 k rows P od n (mv ++ [(j : Int)]) ((j + 1 : Nat) : Int) bs pos' sd') r) : Ev (fun k => spec_l03Drawn.l1 k rows P od n mv (j : Int) bs pos sd) r := by
  have e2 : wrap64 ((j : Int) + 1) = ((j + 1 : Nat) : Int) := by rw [w64 (by omega) (by omega)]; omega
  have e3 : IntKind.i8.wrap (j : Int) = (j : Int) := wi8 (by omega) (by omega)
  refine Ev_round ?_
  simp only [spec_l03Drawn.l1]
  rw [e1, e2, e3]
  simp only [Option.bind_some, if_true]
  refine Ev_pos (by omega) (Ev_pos hq ?_)
  exact h1
/-- One row of moves is drawn. -/
theorem dr_inner (bs : List Int) (hb : ∀ x ∈ bs, 0 ≤ x ∧ x ≤ 255) (hl : bs.length ≤ 4096) (P : Nat) (od : Int) (ho1 : 1 < od) (ho2 : od ≤ 200) (rows : List (List Int)) (n : Nat) (hn : n ≤ 11) (hr : rows.length = n) (ho : okRows 0 rows = true) (Q : List (List Int) → Prop)
    (ih : ∀ (rs : List (List Int)) (pos : Nat) (sd : Int), rs.length = n + 1 → okRows 0 rs = true → pos ≤ 2 + 12 * n + n → ∃ g i s, Ev (fun k => spec_l03Drawn.l0 k rs (P : Int) od ((n + 1 : Nat) : Int) bs (pos : Int) sd) (g, i, s) ∧ Q g) :
    ∀ (e j : Nat), j + e = n → ∀ (mv : List Int) (pos : Nat) (sd : Int), mv.length ≤ j → mv.Pairwise (· < ·) → (∀ x ∈ mv, 0 ≤ x ∧ x < (j : Int)) → pos ≤ 2 + 12 * n + j →
      ∃ g i s, Ev (fun k => spec_l03Drawn.l1 k rows (P : Int) od (n : Int) mv (j : Int) bs (pos : Int) sd) (g, i, s) ∧ Q g := by
  intro e
  induction e with
  | zero =>
    intro j hj mv pos sd hml hpw hx hp
    obtain rfl : j = n := by omega
    have hok : okRows 0 (rows ++ [mv]) = true := okRows_snoc rows 0 mv ho (okFrom_of hpw (fun x hm => by have := hx x hm; omega))
    have hlen : (rows ++ [mv]).length = j + 1 := by rw [List.length_append, hr]; rfl
    obtain ⟨g, i, s, h1, h2⟩ := ih (rows ++ [mv]) pos sd hlen hok (by omega)
    exact ⟨g, i, s, dr_row rows _ _ j mv bs _ _ (by omega) _ (by omega) h1, h2⟩
  | succ e ihe =>
    intro j hj mv pos sd hml hpw hx hp
    obtain ⟨v, s', e1⟩ := one_ok bs hb hl pos (by omega) sd od ho1 ho2
    cases v with
    | true =>
      have hpw2 : (mv ++ [(j : Int)]).Pairwise (· < ·) := by
        rw [List.pairwise_append]
        refine ⟨hpw, List.pairwise_singleton _ _, fun x hm y hy => ?_⟩
        rw [List.mem_singleton.1 hy]
        exact (hx x hm).2
      have hx2 : ∀ x ∈ mv ++ [(j : Int)], 0 ≤ x ∧ x < ((j + 1 : Nat) : Int) := by
        intro x hm
        rcases List.mem_append.1 hm with hm | hm
        · have := hx x hm
          omega
        · rw [List.mem_singleton.1 hm]
          omega
      have hlen : (mv ++ [(j : Int)]).length ≤ j + 1 := by rw [List.length_append]; simp; omega
      obtain ⟨g, i, s, h1, h2⟩ := ihe (j + 1) (by omega) (mv ++ [(j : Int)]) (pos + 1) s' hlen hpw2 hx2 (by omega)
      exact ⟨g, i, s, dr_yes rows _ _ _ j mv bs _ _ _ _ (by omega) (by omega) _ (by omega) e1 h1, h2⟩
    | false =>
      obtain ⟨g, i, s, h1, h2⟩ := ihe (j + 1) (by omega) mv (pos + 1) s' (by omega) hpw (fun x hm => by have := hx x hm; omega) (by omega)
      exact ⟨g, i, s, dr_no rows _ _ _ j mv bs _ _ _ _ (by omega) (by omega) _ e1 h1, h2⟩
theorem dr_loop (bs : List Int) (hb : ∀ x ∈ bs, 0 ≤ x ∧ x ≤ 255) (hl : bs.length ≤ 4096) (P : Nat) (od : Int) (hP : P ≤ 12) (ho1 : 1 < od) (ho2 : od ≤ 200) : ∀ (d n : Nat), n + d = P → ∀ (rows : List (List Int)) (pos : Nat) (sd : Int), rows.length = n → okRows 0 rows = true → pos ≤ 2 + 12 * n →
    ∃ g i s, Ev (fun k => spec_l03Drawn.l0 k rows (P : Int) od (n : Int) bs (pos : Int) sd) (g, i, s) ∧ okRows 0 g = true ∧ g.length = P := by
  intro d
  induction d with
  | zero =>
    intro n hn rows pos sd hr ho hp
    exact ⟨rows, (pos : Int), sd, dr_end rows _ _ _ _ _ _ (by omega), ho, by omega⟩
  | succ d ih =>
    intro n hn rows pos sd hr ho hp
    obtain ⟨g, i, s, h1, h2⟩ := dr_inner bs hb hl P od ho1 ho2 rows n (by omega) hr ho (fun g => okRows 0 g = true ∧ g.length = P)
      (fun rs pos sd h1 h2 h3 => ih (n + 1) (by omega) rs pos sd h1 h2 (by omega)) n 0 (by omega) [] pos sd (Nat.le_refl _) List.Pairwise.nil (fun x hm => by cases hm) (by omega)
    exact ⟨g, i, s, dr_go rows _ _ _ _ _ _ (by omega) _ h1, h2⟩
/-- A valid game is drawn. -/
theorem drawn_ok (bs : List Int) (hb : ∀ x ∈ bs, 0 ≤ x ∧ x ≤ 255) (hl : bs.length ≤ 4096) : ∃ g i sd, Ev (fun k => spec_l03Drawn.f k bs 0 0) (g, i, sd) ∧ validG g = true ∧ g.length ≤ 12 := by
  obtain ⟨v, s1, e1, a1, b1⟩ := pick_ok bs hb hl 0 (by omega) 0 12 (by omega) (by omega)
  obtain ⟨u, s2, e2, a2, b2⟩ := pick_ok bs hb hl 1 (by omega) s1 3 (by omega) (by omega)
  obtain ⟨p, rfl⟩ := Int.eq_ofNat_of_zero_le a1
  obtain ⟨g, i, s, h1, h2, h3⟩ := dr_loop bs hb hl (1 + p) (2 + u) (by omega) (by omega) (by omega) (1 + p) 0 (by omega) [] 2 s2 rfl rfl (by omega)
  have w1 : wrap64 (1 + (p : Int)) = ((1 + p : Nat) : Int) := by rw [w64 (by omega) (by omega)]; omega
  have w2 : wrap64 (2 + u) = 2 + u := w64 (by omega) (by omega)
  have hv : validG g = true := by
    unfold validG
    rw [h2, h3]
    simp
    omega
  refine ⟨g, i, s, ?_, hv, by omega⟩
  unfold spec_l03Drawn.f
  have e1' : spec_l00Src_pick.f bs 0 0 12 = some ((p : Int), ((0 + 1 : Nat) : Int), s1) := e1
  have e2' : spec_l00Src_pick.f bs ((0 + 1 : Nat) : Int) s1 3 = some (u, ((1 + 1 : Nat) : Int), s2) := e2
  rw [e1']
  simp only [Option.bind_some]
  rw [e2']
  simp only [Option.bind_some]
  rw [w1, w2]
  exact h1

theorem spec_ok_ev (g : List (List Int)) (hl : g.length ≤ 1048576) (hr : ∀ mv ∈ g, mv.length ≤ 1048576 ∧ ∀ x ∈ mv, -128 ≤ x ∧ x ≤ 127) : Ev (fun k => spec_l03Ok.f k g) (validG g) := by
  have inner : ∀ (n : Nat) (hn : n < g.length) (r : Bool), Ev (fun k => spec_l03Ok.l0 k g ((n + 1 : Nat) : Int)) r →
      ∀ (d j : Nat) (p : Int), j + d = g[n].length → -1 ≤ p → p ≤ 127 → Ev (fun k => spec_l03Ok.l1 k g (n : Int) p (j : Int)) (okFrom n p (g[n].drop j) && r) := by
    intro n hn r hnext d
    have hmv := hr _ (List.getElem_mem hn)
    induction d with
    | zero =>
      intro j p h hp hp1
      obtain rfl : j = g[n].length := by omega
      refine Ev_round ?_
      simp only [spec_l03Ok.l1]
      rw [rdL2_nat hn]
      refine Ev_pos (by omega) (Ev_pos (by omega) (Ev_neg (by omega) ?_))
      rw [w64 (by omega) (by omega), List.drop_length]
      exact Ev_as hnext (by simp [okFrom])
    | succ d ih =>
      intro j p h hp hp1
      have hj : j < g[n].length := by omega
      have hx := hmv.2 _ (List.getElem_mem hj)
      refine Ev_round ?_
      simp only [spec_l03Ok.l1]
      rw [rdL2_nat hn]
      refine Ev_pos (by omega) (Ev_pos (by omega) (Ev_pos (by omega) (Ev_pos (by omega) ?_)))
      have e0 : wrap64 ((j : Int) + 1) = ((j + 1 : Nat) : Int) := by rw [w64 (by omega) (by omega)]; omega
      rw [List.drop_eq_getElem_cons hj, rd_nat hj, e0, w64 (x := g[n][j]) (by omega) (by omega), w64 (x := (n : Int) - 1) (by omega) (by omega), w64 (x := p + 1) (by omega) (by omega)]
      unfold spec_l00In.f
      by_cases c : p < g[n][j] ∧ 0 ≤ g[n][j] ∧ g[n][j] ≤ (n : Int) - 1
      · refine Ev_bind1 (if_pos (by omega)) (Ev_pos (by simp; omega) (Ev_as (ih (j + 1) _ (by omega) (by omega) (by omega)) ?_))
        simp [okFrom, c]
      · by_cases c0 : g[n][j] ≥ p + 1
        · refine Ev_bind1 (if_pos c0) (Ev_neg (by simp; omega) (Ev_as (Ev.now _) ?_))
          simp [okFrom, c]
        · refine Ev_bind1 (if_neg c0) (Ev_neg (by simp) (Ev_as (Ev.now _) ?_))
          simp [okFrom, c]
  have outer : ∀ (d n : Nat), n + d = g.length → Ev (fun k => spec_l03Ok.l0 k g (n : Int)) (okRows n (g.drop n) && decide (1 ≤ g.length ∧ g.length ≤ 60)) := by
    intro d
    induction d with
    | zero =>
      intro n h
      obtain rfl : n = g.length := by omega
      refine Ev_round ?_
      simp only [spec_l03Ok.l0]
      refine Ev_neg (by omega) ?_
      unfold spec_l00In.f
      rw [List.drop_length]
      by_cases c0 : (g.length : Int) ≥ 1
      · refine Ev_bind1 (if_pos c0) (Ev_as (Ev.now _) ?_)
        simp only [okRows, Bool.true_and]
        apply decide_eq_decide.2
        omega
      · refine Ev_bind1 (if_neg c0) (Ev_as (Ev.now _) ?_)
        simp [okRows]
        omega
    | succ d ih =>
      intro n h
      have hn : n < g.length := by omega
      refine Ev_round ?_
      simp only [spec_l03Ok.l0]
      refine Ev_pos (by omega) ?_
      rw [List.drop_eq_getElem_cons hn]
      refine Ev_as (inner n hn _ (ih (n + 1) (by omega)) g[n].length 0 (-1) (by omega) (by omega) (by omega)) ?_
      simp [okRows, Bool.and_assoc]
  exact Ev_as (outer g.length 0 (by omega)) (by simp [validG])

theorem least_ev (l : List Int) (hl : l.length ≤ 65535) (hr : ∀ x ∈ l, 0 ≤ x ∧ x ≤ 65535) : Ev (fun k => spec_l03Least.f k l) ((mexN l : Nat) : Int) := by
  have hm := mexN_is l
  have hle := mexN_le l
  have last : ∀ (d n : Nat), n + d = mexN l → Ev (fun k => spec_l03Least.l1 k (flags (l.length + 1) l) (n : Int)) ((mexN l : Nat) : Int) := by
    intro d
    induction d with
    | zero =>
      intro n h
      obtain rfl : n = mexN l := by omega
      refine Ev_round ?_
      simp only [spec_l03Least.l1]
      refine Ev_pos (by omega) (Ev_pos (by rw [flags_length]; omega) (Ev_neg ?_ ?_))
      · rw [rdOf, List.getD_eq_getElem?_getD, List.getElem?_eq_getElem (by rw [Int.toNat_natCast, flags_length]; omega), Option.getD_some, flags_get]
        simp [hm.1]
      · rw [wu16 (by omega) (by omega)]
        exact Ev.now _
    | succ d ih =>
      intro n h
      refine Ev_round ?_
      simp only [spec_l03Least.l1]
      refine Ev_pos (by omega) (Ev_pos (by rw [flags_length]; omega) (Ev_pos ?_ ?_))
      · rw [rdOf, List.getD_eq_getElem?_getD, List.getElem?_eq_getElem (by rw [Int.toNat_natCast, flags_length]; omega), Option.getD_some, flags_get]
        simp [hm.2 n (by omega)]
      · rw [w64 (by omega) (by omega)]
        exact ih (n + 1) (by omega)
  have main : ∀ (d n : Nat), n + d = l.length → Ev (fun k => spec_l03Least.l0 k l (flags (l.length + 1) (l.take n)) (n : Int)) ((mexN l : Nat) : Int) := by
    intro d
    induction d with
    | zero =>
      intro n h
      obtain rfl : n = l.length := by omega
      refine Ev_round ?_
      simp only [spec_l03Least.l0]
      refine Ev_neg (by omega) ?_
      rw [List.take_length]
      exact last (mexN l) 0 (by omega)
    | succ d ih =>
      intro n h
      have hn : n < l.length := by omega
      have hx := hr _ (List.getElem_mem hn)
      have ht : l.take (n + 1) = l.take n ++ [l[n]] := by rw [List.take_succ_eq_append_getElem hn]
      refine Ev_round ?_
      simp only [spec_l03Least.l0]
      refine Ev_pos (by omega) (Ev_pos (by omega) ?_)
      rw [rd_nat hn, w64 (by omega) (by omega), w64 (by omega) (by omega), flags_length]
      have nx := ih (n + 1) (by omega)
      rw [ht] at nx
      by_cases c : l[n] < ((l.length + 1 : Nat) : Int)
      · refine Ev_pos c (Ev_pos (by omega) (Ev_pos c ?_))
        rw [flags_set _ _ _ (by omega), Int.toNat_of_nonneg hx.1]
        exact nx
      · refine Ev_neg c ?_
        rw [flags_out _ _ _ (by omega)] at nx
        exact nx
  unfold spec_l03Least.f
  rw [w64 (by omega) (by omega)]
  refine Ev_pos (by omega) (Ev_pos (by omega) ?_)
  have := main l.length 0 (by omega)
  rw [List.take_zero, flags_nil] at this
  exact this

theorem spec_values_ev (g : List (List Int)) (h : validG g = true) : Ev (fun k => spec_l03Values.f k g) (GV g) := by
  have hl := valid_len h
  have outer : ∀ (d n : Nat), n + d = g.length → Ev (fun k => spec_l03Values.l0 k g ((g.take n).foldl gvStep []) (n : Int)) (GV g) := by
    intro d
    induction d with
    | zero =>
      intro n hn
      obtain rfl : n = g.length := by omega
      refine Ev_round ?_
      simp only [spec_l03Values.l0]
      refine Ev_neg (by omega) (Ev_as (Ev.now _) ?_)
      rw [List.take_length]
      rfl
    | succ d ih =>
      intro n hn
      have hlt : n < g.length := by omega
      have nx := ih (n + 1) (by omega)
      rw [gvs_take n hlt] at nx
      have ho := gvs_len g n (by omega)
      have hr := gvs_range h n (by omega)
      generalize (g.take n).foldl gvStep [] = out at *
      have hx := valid_at h n hlt
      have hrl := valid_row_len h n hlt
      refine Ev_round ?_
      simp only [spec_l03Values.l0]
      refine Ev_pos (by omega) ?_
      have inner : ∀ (e j : Nat), j + e = g[n].length → Ev (fun k => spec_l03Values.l1 k g out (n : Int) ((g[n].take j).map (rd out)) (j : Int)) (GV g) := by
        intro e
        induction e with
        | zero =>
          intro j hj
          obtain rfl : j = g[n].length := by omega
          refine Ev_round ?_
          simp only [spec_l03Values.l1]
          rw [rdL2_nat hlt, List.take_length]
          refine Ev_pos (by omega) (Ev_pos (by omega) (Ev_neg (by omega) (Ev.bind (least_ev _ (by simp; omega) (fun x hx' => ?_)) (Ev_pos (by omega) ?_))))
          · obtain ⟨y, hy, rfl⟩ := List.mem_map.1 hx'
            obtain ⟨a, b⟩ := hx y hy
            have := hr _ (rd_mem (xs := out) a (by omega))
            omega
          · rw [w64 (by omega) (by omega)]
            exact nx
        | succ e ihe =>
          intro j hj
          have hjl : j < g[n].length := by omega
          obtain ⟨a, b⟩ := hx _ (List.getElem_mem hjl)
          refine Ev_round ?_
          simp only [spec_l03Values.l1]
          rw [rdL2_nat hlt, rd_nat hjl]
          refine Ev_pos (by omega) (Ev_pos (by omega) (Ev_pos (by omega) (Ev_pos (by omega) (Ev_pos a (Ev_pos (by omega) (Ev_pos (by simp; omega) ?_))))))
          rw [w64 (by omega) (by omega)]
          have := ihe (j + 1) (by omega)
          rw [List.take_succ_eq_append_getElem hjl, List.map_append] at this
          exact this
      exact inner g[n].length 0 (by omega)
  exact outer g.length 0 (by omega)

theorem sameNims_ev (xs : List Int) (hn : xs.length ≤ 100000) : Ev (fun k => spec_SameNims.f k xs xs) true := by
  have main : ∀ (d n : Nat), n + d = xs.length → Ev (fun k => spec_SameNims.l0 k xs xs (n : Int)) true := by
    intro d
    induction d with
    | zero =>
      intro n h
      refine Ev_round ?_
      simp only [spec_SameNims.l0]
      exact Ev_neg (by omega) (Ev.now _)
    | succ d ih =>
      intro n h
      refine Ev_round ?_
      simp only [spec_SameNims.l0]
      rw [w64 (by omega) (by omega)]
      exact Ev_pos (by omega) (Ev_pos (by omega) (Ev_pos (by omega) (Ev_pos (by simp) (ih (n + 1) (by omega)))))
  exact Ev_pos rfl (main xs.length 0 (by omega))

theorem spec_same_ev (g h : List (List Int)) (hg : g.length ≤ 1048576) (hr : ∀ mv ∈ g, mv.length ≤ 1048576) : Ev (fun k => spec_SameGame.f k g h) (decide (g = h)) := by
  by_cases hl : g.length = h.length
  · have main : ∀ (d n : Nat), n + d = g.length → g.take n = h.take n → Ev (fun k => spec_SameGame.l0 k g h (n : Int)) (decide (g = h)) := by
      intro d
      induction d with
      | zero =>
        intro n h1 h3
        refine Ev_round ?_
        simp only [spec_SameGame.l0]
        refine Ev_neg (by omega) (Ev_as (Ev.now _) ?_)
        rw [List.take_of_length_le (by omega), List.take_of_length_le (by omega)] at h3
        simp [h3]
      | succ d ih =>
        intro n h1 h3
        have hn : n < g.length := by omega
        have hm : n < h.length := by omega
        refine Ev_round ?_
        simp only [spec_SameGame.l0]
        refine Ev_pos (by omega) (Ev_pos (by omega) (Ev_pos (by omega) ?_))
        rw [rdL2_nat hn, rdL2_nat hm]
        by_cases e : g[n].length = h[n].length
        · refine Ev_pos (by omega) ?_
          have hrl := hr _ (List.getElem_mem hn)
          have inner : ∀ (c j : Nat), j + c = g[n].length → g[n].take j = h[n].take j → Ev (fun k => spec_SameGame.l1 k g h (n : Int) (j : Int)) (decide (g = h)) := by
            intro c
            induction c with
            | zero =>
              intro j hj hp
              refine Ev_round ?_
              simp only [spec_SameGame.l1]
              rw [rdL2_nat hn, rdL2_nat hm]
              refine Ev_pos (by omega) (Ev_pos (by omega) (Ev_neg (by omega) ?_))
              rw [w64 (by omega) (by omega)]
              rw [List.take_of_length_le (by omega), List.take_of_length_le (by omega)] at hp
              refine ih (n + 1) (by omega) ?_
              rw [List.take_succ_eq_append_getElem hn, List.take_succ_eq_append_getElem hm, h3, hp]
            | succ c ihc =>
              intro j hj hp
              have hj1 : j < g[n].length := by omega
              have hj2 : j < h[n].length := by omega
              refine Ev_round ?_
              simp only [spec_SameGame.l1]
              rw [rdL2_nat hn, rdL2_nat hm, rd_nat hj1, rd_nat hj2, w64 (x := (j : Int) + 1) (by omega) (by omega)]
              refine Ev_pos (by omega) (Ev_pos (by omega) (Ev_pos (by omega) (Ev_pos (by omega) (Ev_pos (by omega) (Ev_pos (by omega) ?_)))))
              by_cases q : g[n][j] = h[n][j]
              · refine Ev_pos q (ihc (j + 1) (by omega) ?_)
                rw [List.take_succ_eq_append_getElem hj1, List.take_succ_eq_append_getElem hj2, hp, q]
              · refine Ev_neg q (Ev_as (Ev.now _) ?_)
                have : g ≠ h := fun x => q (by subst x; rfl)
                simp [this]
          exact inner g[n].length 0 (by omega) (by simp)
        · refine Ev_neg (by omega) (Ev_as (Ev.now _) ?_)
          have : g ≠ h := fun x => e (by subst x; rfl)
          simp [this]
    exact Ev_pos (by omega) (main g.length 0 (by omega) (by simp))
  · refine Ev_neg (by omega) (Ev_as (Ev.now _) ?_)
    have : g ≠ h := fun e => hl (by rw [e])
    simp [this]

/-- What is told of a game and places. -/
def placedR (g : List (List Int)) (l : List Int) : Int := if validG g = true then (if (l.length : Int) > 12 then 3 else (if (l.any fun p => !(decide (0 ≤ p ∧ p ≤ (g.length : Int) - 1))) = true then 2 else 0)) else 1
theorem placed_ev (g : List (List Int)) (hl : g.length ≤ 1048576) (hr : ∀ mv ∈ g, mv.length ≤ 1048576 ∧ ∀ x ∈ mv, -128 ≤ x ∧ x ≤ 127) (l : List Int) (hll : l.length ≤ 1048576) : Ev (fun k => spec_l03Placed.f k g l) (placedR g l) := by
  have main : ∀ (d n : Nat), n + d = l.length → Ev (fun k => spec_l03Placed.l0 k g l (n : Int)) (if ((l.drop n).any fun p => !(decide (0 ≤ p ∧ p ≤ (g.length : Int) - 1))) = true then 2 else 0) := by
    intro d
    induction d with
    | zero =>
      intro n h
      obtain rfl : n = l.length := by omega
      refine Ev_round ?_
      simp only [spec_l03Placed.l0]
      rw [List.drop_length]
      exact Ev_neg (by omega) (Ev_as (Ev.now _) (by simp))
    | succ d ih =>
      intro n h
      have hn : n < l.length := by omega
      refine Ev_round ?_
      simp only [spec_l03Placed.l0]
      rw [List.drop_eq_getElem_cons hn, rd_nat hn, w64 (x := (g.length : Int) - 1) (by omega) (by omega), w64 (by omega) (by omega), List.any_cons]
      refine Ev_pos (by omega) (Ev_pos (by omega) ?_)
      unfold spec_l00In.f
      by_cases c : 0 ≤ l[n] ∧ l[n] ≤ (g.length : Int) - 1
      · refine Ev_bind1 (if_pos c.1) (Ev_pos (by simpa using c.2) (Ev_as (ih (n + 1) (by omega)) ?_))
        simp only [c, and_self, decide_true, Bool.not_true, Bool.false_or]
      · have e : (!(decide (0 ≤ l[n] ∧ l[n] ≤ (g.length : Int) - 1))) = true := by simp only [c, decide_false, Bool.not_false]
        rw [e, Bool.true_or]
        by_cases c0 : l[n] ≥ 0
        · exact Ev_bind1 (if_pos c0) (Ev_neg (by simp; omega) (Ev.now _))
        · exact Ev_bind1 (if_neg c0) (Ev_neg (by simp) (Ev.now _))
  unfold spec_l03Placed.f placedR
  refine Ev.bind (spec_ok_ev g hl hr) (Ev_ite (fun _ => Ev_ite (fun _ => Ev.now _) (fun _ => ?_)) (fun _ => Ev.now _))
  exact main l.length 0 (by omega)
theorem placedR_zero {g : List (List Int)} {l : List Int} (h : placedR g l = 0) : validG g = true ∧ l.length ≤ 12 ∧ ∀ p ∈ l, 0 ≤ p ∧ p ≤ (g.length : Int) - 1 := by
  unfold placedR at h
  by_cases c : validG g = true
  · rw [if_pos c] at h
    by_cases c2 : (l.length : Int) > 12
    · rw [if_pos c2] at h
      exact absurd h (by decide)
    · rw [if_neg c2] at h
      refine ⟨c, by omega, fun p hp => ?_⟩
      apply Classical.byContradiction
      intro hn
      rw [if_pos (List.any_eq_true.2 ⟨p, hp, by simp only [hn, decide_false, Bool.not_false]⟩)] at h
      exact absurd h (by decide)
  · rw [if_neg c] at h
    exact absurd h (by decide)

/-- The sum of the values of places. -/
def sumP (vals l : List Int) : Int := l.foldl (fun s p => X s (rd vals p)) 0
theorem spec_sumP_ev (vals l : List Int) (hl : l.length ≤ 1048576) (hp : ∀ p ∈ l, 0 ≤ p ∧ p < (vals.length : Int)) : Ev (fun k => spec_l03Sum.f k vals l) (sumP vals l) :=
  fold_loop (L := fun k s i => spec_l03Sum.l0 k vals l s i) (f := fun s p => X s (rd vals p)) (fin := id) l (fun _ _ => True)
    (fun k s n h _ => by
      have := hp _ (List.getElem_mem h)
      simp only [spec_l03Sum.l0]
      rw [rd_nat h, if_pos (by omega), if_pos (by omega), if_pos this.1, if_pos this.2, w64 (by omega) (by omega)]
      rfl)
    (fun _ _ _ _ => trivial)
    (fun k s _ => by simp only [spec_l03Sum.l0]; rw [if_neg (by omega)]; rfl) l.length 0 0 (by omega) trivial

/-- Does the move from p to t make the sum 0? -/
def wmWin (V : List Int) (s p t : Int) : Bool := decide (X (X s (rd V p)) (rd V t) = 0)
def wmRow (V : List Int) (s : Int) (i : Nat) (p : Int) (row : List Int) (n : Nat) : List S53 := ((row.take n).filter fun t => wmWin V s p t).map fun t => ⟨(i : Int), t⟩
theorem wmRow_zero (V : List Int) (s : Int) (i : Nat) (p : Int) (row : List Int) : wmRow V s i p row 0 = [] := by simp [wmRow]
theorem wmRow_succ (V : List Int) (s : Int) (i : Nat) (p : Int) (row : List Int) (n : Nat) (h : n < row.length) : wmRow V s i p row (n + 1) = wmRow V s i p row n ++ (if wmWin V s p row[n] then [⟨(i : Int), row[n]⟩] else []) := by
  unfold wmRow
  rw [List.take_succ_eq_append_getElem h, List.filter_append, List.map_append]
  congr 1
  by_cases c : wmWin V s p row[n] = true
  · simp [c]
  · simp [c]
theorem wmRow_len (V : List Int) (s : Int) (i : Nat) (p : Int) (row : List Int) (n : Nat) : (wmRow V s i p row n).length ≤ row.length := by
  unfold wmRow
  rw [List.length_map]
  refine Nat.le_trans (List.length_filter_le _ _) ?_
  rw [List.length_take]
  omega
def rowAt (g : List (List Int)) (p : Int) : List Int := g.getD p.toNat []
/-- The moves that win from the first i places. -/
def wmDone (g : List (List Int)) (V : List Int) (s : Int) (l : List Int) : Nat → List S53
  | 0 => []
  | i + 1 => wmDone g V s l i ++ wmRow V s i (rd l i) (rowAt g (rd l i)) (rowAt g (rd l i)).length
theorem wmDone_succ (g : List (List Int)) (V : List Int) (s : Int) (l : List Int) (i : Nat) : wmDone g V s l (i + 1) = wmDone g V s l i ++ wmRow V s i (rd l i) (rowAt g (rd l i)) (rowAt g (rd l i)).length := rfl
theorem wmDone_len (g : List (List Int)) (hv : validG g = true) (V : List Int) (s : Int) (l : List Int) : ∀ i, (wmDone g V s l i).length ≤ i * 60 := by
  intro i
  induction i with
  | zero => simp [wmDone]
  | succ i ih =>
    rw [wmDone_succ, List.length_append]
    have h1 := wmRow_len V s i (rd l i) (rowAt g (rd l i)) (rowAt g (rd l i)).length
    have h2 : (rowAt g (rd l i)).length ≤ 60 := by
      unfold rowAt
      have h3 := valid_len hv
      rw [List.getD_eq_getElem?_getD]
      by_cases c : (rd l (i : Int)).toNat < g.length
      · rw [List.getElem?_eq_getElem c]
        have := valid_row_len hv _ c
        simp only [Option.getD_some]
        omega
      · rw [List.getElem?_eq_none (by omega)]
        simp
    omega
theorem rowAt_nat {g : List (List Int)} {P : Nat} (h : P < g.length) : rowAt g (P : Int) = g[P] := by simp [rowAt, List.getD_eq_getElem?_getD, List.getElem?_eq_getElem h]
set_option maxHeartbeats 1000000 in
theorem spec_wm_loop (g : List (List Int)) (hv : validG g = true) (V : List Int) (hV : V.length = g.length) (s : Int) (l : List Int) (hl : l.length ≤ 12) (hp : ∀ p ∈ l, 0 ≤ p ∧ p ≤ (g.length : Int) - 1) :
    ∀ (d i : Nat), i + d = l.length → Ev (fun k => spec_WinningMoves.l0 k g l V s (wmDone g V s l i) (i : Int)) (wmDone g V s l l.length, 0) := by
  intro d
  induction d with
  | zero =>
    intro i h
    obtain rfl : i = l.length := by omega
    refine Ev_round ?_
    simp only [spec_WinningMoves.l0]
    exact Ev_neg (by omega) (Ev.now _)
  | succ d ih =>
    intro i h
    have hi : i < l.length := by omega
    have hpi := hp _ (List.getElem_mem hi)
    have nx := ih (i + 1) (by omega)
    obtain ⟨P, hP⟩ := Int.eq_ofNat_of_zero_le hpi.1
    have hr : rd l (i : Int) = (P : Int) := by rw [rd_nat hi]; exact hP
    have hPg : P < g.length := by omega
    have hg60 := valid_len hv
    have hrow := valid_row_len hv P hPg
    have hrx := valid_at hv P hPg
    have hro := rowAt_nat hPg
    have hrd := rdL2_nat hPg
    have hsz := wmDone_len g hv V s l i
    generalize g[P] = row at hrow hrx hro hrd
    have inner : ∀ (e n : Nat), n + e = row.length → Ev (fun k => spec_WinningMoves.l1 k g l V s (wmDone g V s l i ++ wmRow V s i (P : Int) row n) (i : Int) (P : Int) (n : Int)) (wmDone g V s l l.length, 0) := by
      intro e
      induction e with
      | zero =>
        intro n hn
        obtain rfl : n = row.length := by omega
        refine Ev_round ?_
        simp only [spec_WinningMoves.l1]
        rw [hrd]
        refine Ev_pos (by omega) (Ev_pos (by omega) (Ev_neg (by omega) ?_))
        rw [w64 (by omega) (by omega)]
        rw [wmDone_succ, hr, hro] at nx
        exact nx
      | succ e ihe =>
        intro n hn
        have hnr : n < row.length := by omega
        have hx := hrx _ (List.getElem_mem hnr)
        refine Ev_round ?_
        simp only [spec_WinningMoves.l1]
        have nx2 := ihe (n + 1) (by omega)
        rw [wmRow_succ V s i (P : Int) row n hnr] at nx2
        have h2 := wmRow_len V s i (P : Int) row n
        have hlen : (wmDone g V s l i ++ wmRow V s i (P : Int) row n).length < 8796093022208 := by rw [List.length_append]; omega
        rw [hrd, rd_nat hnr]
        generalize row[n] = t at hx nx2
        rw [w64 (x := t) (by omega) (by omega), w64 (x := (n : Int) + 1) (by omega) (by omega)]
        refine Ev_pos (by omega) (Ev_pos (by omega) (Ev_pos (by omega) (Ev_pos (by omega) (Ev_pos (by omega) (Ev_pos (by omega) (Ev_pos (by omega) ?_))))))
        by_cases c2 : X (X s (rd V (P : Int))) (rd V t) = 0
        · rw [if_pos (by unfold wmWin; rw [decide_eq_true c2]), ← List.append_assoc] at nx2
          exact Ev_pos c2 (Ev_pos hlen nx2)
        · rw [if_neg (by unfold wmWin; rw [decide_eq_false c2]; decide), List.append_nil] at nx2
          exact Ev_neg c2 nx2
    have hin := inner row.length 0 (by omega)
    rw [wmRow_zero, List.append_nil] at hin
    refine Ev_round ?_
    simp only [spec_WinningMoves.l0]
    refine Ev_pos (by omega) (Ev_pos (by omega) ?_)
    rw [hr]
    exact hin
/-- What WinningMoves tells. -/
def wmR (g : List (List Int)) (l : List Int) : List S53 × Int := if placedR g l = 0 then (wmDone g (GV g) (sumP (GV g) l) l l.length, 0) else ([], placedR g l)
theorem spec_wm_ev (g : List (List Int)) (hl : g.length ≤ 1048576) (hr : ∀ mv ∈ g, mv.length ≤ 1048576 ∧ ∀ x ∈ mv, -128 ≤ x ∧ x ≤ 127) (l : List Int) (hll : l.length ≤ 1048576) : Ev (fun k => spec_WinningMoves.f k g l) (wmR g l) := by
  have hs := placed_ev g hl hr l hll
  unfold wmR
  by_cases c : placedR g l = 0
  · obtain ⟨hv, h12, hp⟩ := placedR_zero c
    rw [if_pos c]
    exact Ev.bind hs (Ev_pos c (Ev.bind (spec_values_ev g hv) (Ev.bind (spec_sumP_ev _ l hll (fun p h => by have := hp p h; rw [GV_len]; omega)) (spec_wm_loop g hv (GV g) (GV_len g) _ l h12 hp l.length 0 (by omega)))))
  · rw [if_neg c]
    exact Ev.bind hs (Ev_neg c (Ev.now _))
theorem wmR_len (g : List (List Int)) (l : List Int) : (wmR g l).1.length ≤ 1000 := by
  unfold wmR
  by_cases c : placedR g l = 0
  · obtain ⟨hv, h12, _⟩ := placedR_zero c
    rw [if_pos c]
    have := wmDone_len g hv (GV g) (sumP (GV g) l) l l.length
    show (wmDone g (GV g) (sumP (GV g) l) l l.length).length ≤ 1000
    omega
  · rw [if_neg c]
    simp

theorem rdP2 {xs : List S53} {n : Nat} (h : n < xs.length) : rd_T53 xs (n : Int) = xs[n] := by simp [rd_T53, List.getD_eq_getElem?_getD, List.getElem?_eq_getElem h]
theorem samePairs_ev (xs : List S53) (hn : xs.length ≤ 100000) : Ev (fun k => spec_SamePairs.f k xs xs) true := by
  have main : ∀ (d n : Nat), n + d = xs.length → Ev (fun k => spec_SamePairs.l0 k xs xs (n : Int)) true := by
    intro d
    induction d with
    | zero =>
      intro n h
      refine Ev_round ?_
      simp only [spec_SamePairs.l0]
      exact Ev_neg (by omega) (Ev.now _)
    | succ d ih =>
      intro n h
      refine Ev_round ?_
      simp only [spec_SamePairs.l0]
      rw [w64 (by omega) (by omega)]
      exact Ev_pos (by omega) (Ev_pos (by omega) (Ev_pos (by omega) (Ev_neg (by simp) (ih (n + 1) (by omega)))))
  exact Ev_pos rfl (main xs.length 0 (by omega))

theorem impl_valid_ev (g : List (List Int)) (hl : g.length ≤ 1048576) (hr : ∀ mv ∈ g, mv.length ≤ 1048576 ∧ ∀ x ∈ mv, -128 ≤ x ∧ x ≤ 127) : Ev (fun k => impl_ValidGame.f k g) (validG g) := by
  -- the moves of one place, from one of them on
  have inner : ∀ (n : Nat) (hn : n < g.length) (r : Bool), Ev (fun k => impl_ValidGame.l0 k g g g.length ((n + 1 : Nat) : Int)) r →
      ∀ (d j : Nat) (p : Int), j + d = g[n].length → (j = 0 → p = -1) → (∀ h : 0 < j, ∀ h' : j - 1 < g[n].length, p = g[n][j - 1]) → -1 ≤ p →
        Ev (fun k => impl_ValidGame.l1 k g (n : Int) g[n] g g.length (n : Int) g[n] g[n].length (j : Int)) (okFrom n p (g[n].drop j) && r) := by
    intro n hn r hnext d
    have hmv := hr _ (List.getElem_mem hn)
    induction d with
    | zero =>
      intro j p h _ _ _
      obtain rfl : j = g[n].length := by omega
      refine Ev_round ?_
      simp only [impl_ValidGame.l1]
      refine Ev_neg (by omega) ?_
      rw [w64 (by omega) (by omega), List.drop_length]
      exact Ev_as hnext (by simp [okFrom])
    | succ d ih =>
      intro j p h h0 h1 hp
      have hj : j < g[n].length := by omega
      have hx := hmv.2 _ (List.getElem_mem hj)
      refine Ev_round ?_
      simp only [impl_ValidGame.l1]
      refine Ev_pos (by omega) (Ev_pos (by omega) (Ev_pos (by omega) ?_))
      rw [List.drop_eq_getElem_cons hj, rd_nat hj, w64 (by omega) (by omega), w64 (x := (n : Int) - 1) (by omega) (by omega)]
      unfold impl_within.f
      by_cases c0 : 0 ≤ g[n][j]
      · by_cases c1 : g[n][j] ≤ (n : Int) - 1
        · refine Ev_bind1 (if_pos c0) (Ev_pos (by simpa using c1) ?_)
          have e0 : wrap64 ((j : Int) + 1) = ((j + 1 : Nat) : Int) := by rw [w64 (by omega) (by omega)]; omega
          rw [e0]
          by_cases cj : (j : Int) > 0
          · have e1 : wrap64 ((j : Int) - 1) = ((j - 1 : Nat) : Int) := by rw [w64 (by omega) (by omega)]; omega
            rw [e1]
            refine Ev_pos cj (Ev_pos (by omega) (Ev_pos (by omega) ?_))
            rw [rd_nat (show j - 1 < g[n].length by omega)]
            have hpp := h1 (by omega) (by omega)
            by_cases c2 : g[n][j] ≤ g[n][j - 1]'(by omega)
            · refine Ev_pos c2 (Ev_as (Ev.now _) ?_)
              have : ¬ (p < g[n][j] ∧ 0 ≤ g[n][j] ∧ g[n][j] ≤ (n : Int) - 1) := by omega
              simp [okFrom, this]
            · refine Ev_neg c2 (Ev_as (ih (j + 1) g[n][j] (by omega) (by omega) (fun _ _ => by simp) (by omega)) ?_)
              have : p < g[n][j] ∧ 0 ≤ g[n][j] ∧ g[n][j] ≤ (n : Int) - 1 := by omega
              simp [okFrom, this]
          · refine Ev_neg cj (Ev_as (ih (j + 1) g[n][j] (by omega) (by omega) (fun _ _ => by simp) (by omega)) ?_)
            have hp0 := h0 (by omega)
            have : p < g[n][j] ∧ 0 ≤ g[n][j] ∧ g[n][j] ≤ (n : Int) - 1 := by omega
            simp [okFrom, this]
        · refine Ev_bind1 (if_pos c0) (Ev_neg (by simpa using c1) (Ev_as (Ev.now _) ?_))
          have : ¬ (p < g[n][j] ∧ 0 ≤ g[n][j] ∧ g[n][j] ≤ (n : Int) - 1) := by omega
          simp [okFrom, this]
      · refine Ev_bind1 (if_neg c0) (Ev_neg (by simp) (Ev_as (Ev.now _) ?_))
        have : ¬ (p < g[n][j] ∧ 0 ≤ g[n][j] ∧ g[n][j] ≤ (n : Int) - 1) := by omega
        simp [okFrom, this]
  have outer : ∀ (d n : Nat), n + d = g.length → Ev (fun k => impl_ValidGame.l0 k g g g.length (n : Int)) (okRows n (g.drop n) && decide (1 ≤ g.length ∧ g.length ≤ 60)) := by
    intro d
    induction d with
    | zero =>
      intro n h
      obtain rfl : n = g.length := by omega
      refine Ev_round ?_
      simp only [impl_ValidGame.l0]
      refine Ev_neg (by omega) ?_
      unfold impl_within.f
      rw [List.drop_length]
      by_cases c0 : 1 ≤ (g.length : Int)
      · refine Ev_bind1 (if_pos c0) (Ev_as (Ev.now _) ?_)
        simp only [okRows, Bool.true_and]
        apply decide_eq_decide.2
        omega
      · refine Ev_bind1 (if_neg c0) (Ev_as (Ev.now _) ?_)
        simp [okRows]
        omega
    | succ d ih =>
      intro n h
      have hn : n < g.length := by omega
      refine Ev_round ?_
      simp only [impl_ValidGame.l0]
      refine Ev_pos (by omega) (Ev_pos (by omega) (Ev_pos (by omega) ?_))
      rw [rdL2_nat hn, List.drop_eq_getElem_cons hn]
      refine Ev_as (inner n hn _ (ih (n + 1) (by omega)) g[n].length 0 (-1) (by omega) (fun _ => rfl) (fun h _ => by omega) (by omega)) ?_
      simp [okRows, Bool.and_assoc]
  exact Ev_as (outer g.length 0 (by omega)) (by simp [validG])

theorem index_false_ev (fl : List Bool) (n : Nat) (hn : n < fl.length) (hl : fl.length ≤ 9223372036854775806) (h1 : fl[n] = false) (h2 : ∀ m (hm : m < n), fl[m] = true) :
    Ev (fun k => slices_Index_bool_bool.f k fl false) (n : Int) := by
  have main : ∀ (d m : Nat), m + d = n → Ev (fun k => slices_Index_bool_bool.l0 k fl false fl.length (m : Int)) (n : Int) := by
    intro d
    induction d with
    | zero =>
      intro m hm
      obtain rfl : m = n := by omega
      refine Ev_round ?_
      simp only [slices_Index_bool_bool.l0]
      refine Ev_pos (by omega) (Ev_pos (by omega) (Ev_pos (by omega) (Ev_pos ?_ (Ev.now _))))
      simp [rdOf, List.getD_eq_getElem?_getD, List.getElem?_eq_getElem hn, h1]
    | succ d ih =>
      intro m hm
      refine Ev_round ?_
      simp only [slices_Index_bool_bool.l0]
      refine Ev_pos (by omega) (Ev_pos (by omega) (Ev_pos (by omega) (Ev_neg ?_ ?_)))
      · simp [rdOf, List.getD_eq_getElem?_getD, List.getElem?_eq_getElem (show m < fl.length by omega), h2 m (by omega)]
      · rw [w64 (by omega) (by omega)]
        exact ih (m + 1) (by omega)
  exact main n 0 (by omega)

theorem mex_index (l : List Int) : (mexN l < (flags (l.length + 1) l).length) ∧ (∀ h, (flags (l.length + 1) l)[mexN l]'h = false) ∧ ∀ m (hm : m < mexN l) h, (flags (l.length + 1) l)[m]'h = true := by
  have hm := mexN_is l
  have hle := mexN_le l
  refine ⟨by rw [flags_length]; omega, fun h => ?_, fun m hlt h => ?_⟩
  · rw [flags_get]; simp [hm.1]
  · rw [flags_get]; simp [hm.2 m hlt]
theorem impl_mex_ev (l : List Int) (hl : l.length ≤ 140737488355327) (hr : ∀ x ∈ l, 0 ≤ x ∧ x ≤ 65535) : Ev (fun k => impl_mex.f k l) ((mexN l : Nat) : Int) := by
  have main : ∀ (d n : Nat), n + d = l.length → Ev (fun k => impl_mex.l0 k (flags (l.length + 1) (l.take n)) l l.length (n : Int)) ((mexN l : Nat) : Int) := by
    intro d
    induction d with
    | zero =>
      intro n h
      obtain rfl : n = l.length := by omega
      refine Ev_round ?_
      simp only [impl_mex.l0]
      refine Ev_neg (by omega) (Ev.bind ?_ (Ev.now _))
      rw [List.take_length]
      obtain ⟨a, b, c⟩ := mex_index l
      exact index_false_ev _ _ a (by rw [flags_length]; omega) (b a) (fun m hm => c m hm (by omega))
    | succ d ih =>
      intro n h
      have hn : n < l.length := by omega
      have hx := hr _ (List.getElem_mem hn)
      have ht : l.take (n + 1) = l.take n ++ [l[n]] := by rw [List.take_succ_eq_append_getElem hn]
      refine Ev_round ?_
      simp only [impl_mex.l0]
      refine Ev_pos (by omega) (Ev_pos (by omega) (Ev_pos (by omega) ?_))
      rw [rd_nat hn, w64 (by omega) (by omega), w64 (by omega) (by omega), flags_length]
      have nx := ih (n + 1) (by omega)
      rw [ht] at nx
      by_cases c : l[n] < ((l.length + 1 : Nat) : Int)
      · refine Ev_pos c (Ev_pos (by omega) (Ev_pos c ?_))
        rw [flags_set _ _ _ (by omega), Int.toNat_of_nonneg hx.1]
        exact nx
      · refine Ev_neg c ?_
        rw [flags_out _ _ _ (by omega)] at nx
        exact nx
  unfold impl_mex.f
  rw [w64 (by omega) (by omega)]
  refine Ev_pos (by omega) (Ev_pos (by omega) ?_)
  have := main l.length 0 (by omega)
  rw [List.take_zero, flags_nil] at this
  exact this

theorem impl_values_ev (g : List (List Int)) (h : validG g = true) : Ev (fun k => impl_Game_values.f k g) (GV g) := by
  have hl := valid_len h
  have outer : ∀ (d n : Nat), n + d = g.length → Ev (fun k => impl_Game_values.l0 k ((g.take n).foldl gvStep []) g g.length (n : Int)) (GV g) := by
    intro d
    induction d with
    | zero =>
      intro n hn
      obtain rfl : n = g.length := by omega
      refine Ev_round ?_
      simp only [impl_Game_values.l0]
      refine Ev_neg (by omega) (Ev_as (Ev.now _) ?_)
      rw [List.take_length]
      rfl
    | succ d ih =>
      intro n hn
      have hlt : n < g.length := by omega
      have nx := ih (n + 1) (by omega)
      rw [gvs_take n hlt] at nx
      have ho := gvs_len g n (by omega)
      have hr := gvs_range h n (by omega)
      generalize (g.take n).foldl gvStep [] = out at *
      have hx := valid_at h n hlt
      have hrl := valid_row_len h n hlt
      refine Ev_round ?_
      simp only [impl_Game_values.l0]
      refine Ev_pos (by omega) (Ev_pos (by omega) (Ev_pos (by omega) ?_))
      rw [rdL2_nat hlt]
      have inner : ∀ (e j : Nat), j + e = g[n].length → Ev (fun k => impl_Game_values.l1 k out ((g[n].take j).map (rd out)) g g.length (n : Int) g[n] g[n].length (j : Int)) (GV g) := by
        intro e
        induction e with
        | zero =>
          intro j hj
          obtain rfl : j = g[n].length := by omega
          refine Ev_round ?_
          simp only [impl_Game_values.l1]
          refine Ev_neg (by omega) ?_
          rw [List.take_length]
          have hm := mexN_le (g[n].map (rd out))
          simp only [List.length_map] at hm
          refine Ev.bind (impl_mex_ev _ (by simp; omega) (fun x hx' => ?_)) (Ev_pos (by omega) ?_)
          · obtain ⟨y, hy, rfl⟩ := List.mem_map.1 hx'
            obtain ⟨a, b⟩ := hx y hy
            have := hr _ (rd_mem (xs := out) a (by omega))
            omega
          · rw [wu16 (by omega) (by omega), w64 (by omega) (by omega)]
            exact nx
        | succ e ihe =>
          intro j hj
          have hjl : j < g[n].length := by omega
          obtain ⟨a, b⟩ := hx _ (List.getElem_mem hjl)
          refine Ev_round ?_
          simp only [impl_Game_values.l1]
          refine Ev_pos (by omega) (Ev_pos (by omega) (Ev_pos (by omega) ?_))
          rw [rd_nat hjl]
          refine Ev_pos a (Ev_pos (by omega) (Ev_pos (by simp; omega) ?_))
          rw [w64 (by omega) (by omega)]
          have := ihe (j + 1) (by omega)
          rw [List.take_succ_eq_append_getElem hjl, List.map_append] at this
          exact this
      exact inner g[n].length 0 (by omega)
  exact outer g.length 0 (by omega)

theorem index_nim_ev (l : List Int) (x : Int) (hl : l.length ≤ 140737488355328) : ∃ r, Ev (fun k => impl_Nimber_60.f k l x) r ∧ (0 ≤ r ↔ x ∈ l) := by
  have main : ∀ (d n : Nat), n + d = l.length → ∃ r, Ev (fun k => impl_Nimber_60.l0 k l x l.length (n : Int)) r ∧ (0 ≤ r ↔ x ∈ l.drop n) := by
    intro d
    induction d with
    | zero =>
      intro n h
      obtain rfl : n = l.length := by omega
      refine ⟨-1, Ev_round ?_, by simp⟩
      simp only [impl_Nimber_60.l0]
      exact Ev_neg (by omega) (Ev.now _)
    | succ d ih =>
      intro n h
      have hn : n < l.length := by omega
      by_cases c : x = l[n]
      · refine ⟨(n : Int), Ev_round ?_, ?_⟩
        · simp only [impl_Nimber_60.l0]
          rw [rd_nat hn]
          exact Ev_pos (by omega) (Ev_pos (by omega) (Ev_pos (by omega) (Ev_pos c (Ev.now _))))
        · rw [List.drop_eq_getElem_cons hn, ← c]
          simp
      · obtain ⟨r, h1, h2⟩ := ih (n + 1) (by omega)
        refine ⟨r, Ev_round ?_, ?_⟩
        · simp only [impl_Nimber_60.l0]
          rw [rd_nat hn, w64 (by omega) (by omega)]
          exact Ev_pos (by omega) (Ev_pos (by omega) (Ev_pos (by omega) (Ev_neg c h1)))
        · rw [List.drop_eq_getElem_cons hn, List.mem_cons]
          simp [c, h2]
  obtain ⟨r, h1, h2⟩ := main l.length 0 (by omega)
  exact ⟨r, h1, by simpa using h2⟩

theorem contains_nim_ev (l : List Int) (x : Int) (hl : l.length ≤ 140737488355328) : Ev (fun k => impl_Nimber_49.f k l x) (decide (x ∈ l)) := by
  obtain ⟨r, h1, h2⟩ := index_nim_ev l x hl
  refine Ev.bind h1 (Ev_as (Ev.now _) ?_)
  exact decide_eq_decide.2 h2

/-- The first place that is not as told, from n on; -1 if the list is a proof. -/
def brokenR (l : List Int) (G : Nat) : List (List Int) → Nat → Int
  | [], _ => if l.length > G then (G : Int) else -1
  | mv :: t, n => if l.length ≤ n then (n : Int) else if ((mexN (mv.map (rd l)) : Nat) : Int) = rd l (n : Int) then brokenR l G t (n + 1) else (n : Int)
theorem broken_row {g : List (List Int)} (h : validG g = true) (n : Nat) (hn : n < g.length) (l : List Int) (hl : n < l.length) (hr : ∀ x ∈ l, 0 ≤ x ∧ x ≤ 65535) :
    g[n].length ≤ 60 ∧ (∀ x ∈ g[n], 0 ≤ x ∧ x < (l.length : Int)) ∧ ∀ x ∈ g[n].map (rd l), 0 ≤ x ∧ x ≤ 65535 := by
  have h1 := valid_row_len h n hn
  have h2 := valid_len h
  have h3 := valid_at h n hn
  have h4 : ∀ x ∈ g[n], 0 ≤ x ∧ x < (l.length : Int) := fun x hx => by have := h3 x hx; omega
  refine ⟨by omega, h4, fun x hx => ?_⟩
  obtain ⟨y, hy, rfl⟩ := List.mem_map.1 hx
  exact hr _ (rd_mem (h4 y hy).1 (h4 y hy).2)
theorem impl_broken_ev (g : List (List Int)) (h : validG g = true) (l : List Int) (hl : l.length ≤ 1048576) (hr : ∀ x ∈ l, 0 ≤ x ∧ x ≤ 65535) : Ev (fun k => impl_Game_firstBroken.f k g l) (brokenR l g.length g 0) := by
  have hlen := valid_len h
  have outer : ∀ (d n : Nat), n + d = g.length → Ev (fun k => impl_Game_firstBroken.l0 k g l g g.length (n : Int)) (brokenR l g.length (g.drop n) n) := by
    intro d
    induction d with
    | zero =>
      intro n hn
      obtain rfl : n = g.length := by omega
      refine Ev_round ?_
      simp only [impl_Game_firstBroken.l0]
      rw [List.drop_length]
      refine Ev_neg (by omega) ?_
      unfold brokenR
      by_cases c : l.length > g.length
      · rw [if_pos c]; exact Ev_pos (by omega) (Ev.now _)
      · rw [if_neg c]; exact Ev_neg (by omega) (Ev.now _)
    | succ d ih =>
      intro n hn
      have hlt : n < g.length := by omega
      rw [List.drop_eq_getElem_cons hlt]
      refine Ev_round ?_
      simp only [impl_Game_firstBroken.l0]
      refine Ev_pos (by omega) (Ev_pos (by omega) (Ev_pos (by omega) ?_))
      rw [rdL2_nat hlt]
      unfold brokenR
      by_cases c : l.length ≤ n
      · rw [if_pos c]; exact Ev_pos (by omega) (Ev.now _)
      · rw [if_neg c]
        refine Ev_neg (by omega) ?_
        obtain ⟨b1, b2, b3⟩ := broken_row h n hlt l (by omega) hr
        have nx := ih (n + 1) (by omega)
        have hv := hr _ (rd_mem (xs := l) (i := (n : Int)) (by omega) (by omega))
        have hm := mexN_is (g[n].map (rd l))
        have hml := mexN_le (g[n].map (rd l))
        rw [List.length_map] at hml
        have inner : ∀ (e j : Nat), j + e = g[n].length → Ev (fun k => impl_Game_firstBroken.l1 k g l (n : Int) ((g[n].take j).map (rd l)) g g.length (n : Int) g[n] g[n].length (j : Int)) (if ((mexN (g[n].map (rd l)) : Nat) : Int) = rd l (n : Int) then brokenR l g.length (g.drop (n + 1)) (n + 1) else (n : Int)) := by
          intro e
          induction e with
          | zero =>
            intro j hj
            obtain rfl : j = g[n].length := by omega
            refine Ev_round ?_
            simp only [impl_Game_firstBroken.l1]
            rw [List.take_length]
            refine Ev_neg (by omega) (Ev.bind (impl_mex_ev _ (by simp; omega) b3) (Ev_pos (by omega) (Ev_pos (by omega) ?_)))
            rw [w64 (by omega) (by omega), w64 (by omega) (by omega)]
            by_cases c1 : ((mexN (g[n].map (rd l)) : Nat) : Int) < rd l (n : Int)
            · rw [if_neg (by omega)]
              exact Ev_pos c1 (Ev.now _)
            · refine Ev_neg c1 (Ev.bind (contains_nim_ev _ _ (by simp; omega)) ?_)
              by_cases c2 : ((mexN (g[n].map (rd l)) : Nat) : Int) = rd l (n : Int)
              · rw [if_pos c2]
                refine Ev_neg ?_ nx
                rw [← c2]
                simp [hm.1]
              · rw [if_neg c2]
                refine Ev_pos ?_ (Ev.now _)
                have := hm.2 (rd l (n : Int)).toNat (by omega)
                rw [Int.toNat_of_nonneg hv.1] at this
                simpa using this
          | succ e ihe =>
            intro j hj
            have hjl : j < g[n].length := by omega
            obtain ⟨x1, x2⟩ := b2 _ (List.getElem_mem hjl)
            refine Ev_round ?_
            simp only [impl_Game_firstBroken.l1]
            rw [rd_nat hjl]
            refine Ev_pos (by omega) (Ev_pos (by omega) (Ev_pos (by omega) (Ev_pos x1 (Ev_pos x2 (Ev_pos (by simp; omega) ?_)))))
            rw [w64 (by omega) (by omega)]
            have := ihe (j + 1) (by omega)
            rw [List.take_succ_eq_append_getElem hjl, List.map_append] at this
            exact this
        exact inner g[n].length 0 (by omega)
  exact outer g.length 0 (by omega)

/-- The parts of a list between the bytes c; cur is what the part that is under way holds. -/
def cutL (c : UInt8) : List UInt8 → List UInt8 → List (List UInt8)
  | cur, [] => [cur]
  | cur, x :: t => if x = c then cur :: cutL c [] t else cutL c (cur ++ [x]) t
def mkB (l : List UInt8) : ByteArray := ⟨l.toArray⟩
theorem index_cut (c : UInt8) : ∀ (cur t : List UInt8), c ∉ cur → Go.Lib.index (cur ++ c :: t) [c] = (cur.length : Int) := by
  intro cur
  induction cur with
  | nil =>
    intro t _
    simp [Go.Lib.index, List.isPrefixOf]
  | cons a r ih =>
    intro t h
    have hne : (c == a) = false := by simp; intro e; exact h (by rw [e]; simp)
    have i := ih t (fun e => h (List.mem_cons_of_mem _ e))
    simp only [List.cons_append, Go.Lib.index]
    rw [i]
    simp [List.isPrefixOf, hne] <;> omega
theorem index_none (c : UInt8) : ∀ (l : List UInt8), c ∉ l → Go.Lib.index l [c] = -1 := by
  intro l
  induction l with
  | nil => intro _; simp [Go.Lib.index]
  | cons a r ih =>
    intro h
    have hne : (c == a) = false := by simp; intro e; exact h (by rw [e]; simp)
    have i := ih (fun e => h (List.mem_cons_of_mem _ e))
    simp only [Go.Lib.index]
    rw [i]
    simp [List.isPrefixOf, hne]
theorem split_cut (c : UInt8) : ∀ (l cur : List UInt8), c ∉ cur → Go.Lib.splitK [c] 0 (Go.Lib.count (cur ++ l) [c]) (cur ++ l) = cutL c cur l := by
  intro l
  induction l with
  | nil =>
    intro cur h
    rw [List.append_nil, Go.Lib.count_miss (index_none c cur h)]
    rfl
  | cons x t ih =>
    intro cur h
    simp only [cutL]
    by_cases hx : x = c
    · subst hx
      rw [if_pos rfl]
      have hi := index_cut x cur t h
      rw [Go.Lib.count_hit (by simp) hi, Nat.add_comm 1]
      simp only [Go.Lib.splitK]
      rw [hi, Int.toNat_natCast]
      have hne : (((cur.length : Nat) : Int) == -1) = false := by first | (simp; done) | (simp; omega)
      rw [if_neg (by rw [hne]; simp)]
      have hd : (cur ++ x :: t).drop (cur.length + [x].length) = t := by simp
      have ht : (cur ++ x :: t).take (cur.length + 0) = cur := by simp
      rw [hd, ht]
      have := ih [] (by simp)
      rw [List.nil_append] at this
      rw [this]
    · rw [if_neg hx]
      have := ih (cur ++ [x]) (by simp; exact ⟨h, fun e => hx e.symm⟩)
      rw [List.append_assoc] at this
      exact this
theorem splitS_cut (s : ByteArray) (c : UInt8) : splitS s (⟨#[c]⟩ : ByteArray) = (cutL c [] s.data.toList).map mkB := by
  have h1 := Go.Lib.splitB_data (⟨#[c]⟩ : ByteArray) 0 (Go.Lib.countB s (⟨#[c]⟩ : ByteArray)) s
  have h2 := split_cut c s.data.toList [] (by simp)
  rw [List.nil_append] at h2
  have h3 : (splitS s (⟨#[c]⟩ : ByteArray)).map (·.data.toList) = cutL c [] s.data.toList := h1.trans h2
  rw [← h3, List.map_map]
  conv => lhs; rw [← List.map_id (splitS s (⟨#[c]⟩ : ByteArray))]
  apply List.map_congr_left
  intro x _
  exact ByteArray.ext (by simp [mkB])

def decS (n : Nat) : ByteArray := ⟨(Go.Lib.decDigits n).toArray⟩
theorem nDigits_le (u : Nat) : Go.Lib.nDigits u ≤ u + 1 := by
  induction u using Nat.strongRecOn with
  | ind u ih =>
    by_cases h : u < 10
    · rw [Go.Lib.nDigits_small h]; omega
    · rw [Go.Lib.nDigits_big h]
      have := ih (u / 10) (by omega)
      omega
theorem decS_size (n : Nat) : (decS n).size = Go.Lib.nDigits n := by
  show (Go.Lib.decDigits n).toArray.size = _
  rw [List.size_toArray, Go.Lib.decDigits_length]
def dig (c : UInt8) : Bool := decide (48 ≤ c.toNat) && decide (c.toNat ≤ 57)
def valF (l : List UInt8) (a : Nat) : Nat := l.foldl (fun a c => a * 10 + (c.toNat - 48)) a
theorem valF_cons (c : UInt8) (l : List UInt8) (a : Nat) : valF (c :: l) a = valF l (a * 10 + (c.toNat - 48)) := by
  unfold valF
  rw [List.foldl_cons]
theorem valF_snoc (l : List UInt8) (c : UInt8) (a : Nat) : valF (l ++ [c]) a = valF l a * 10 + (c.toNat - 48) := by simp [valF, List.foldl_append]
theorem digit_nat (k : Nat) (h : k < 10) : (UInt8.ofNat (48 + k)).toNat = 48 + k := by
  have : 48 + k < 256 := by omega
  exact UInt8.toNat_ofNat_of_lt' this
theorem head_app {l r : List UInt8} (h : l ≠ []) : (l ++ r).head? = l.head? := by
  obtain ⟨x, t, rfl⟩ := List.exists_cons_of_ne_nil h
  rfl
theorem dec_step {n : Nat} (h : ¬ n < 10) : Go.Lib.decDigits n = Go.Lib.decDigits (n / 10) ++ [UInt8.ofNat (48 + n % 10)] := by
  rw [Go.Lib.decDigits, dif_neg h]
theorem dec_ne (n : Nat) : Go.Lib.decDigits n ≠ [] := by
  by_cases h : n < 10
  · rw [Go.Lib.decDigits_one h]; simp
  · rw [dec_step h]; simp
theorem dec_dig (n : Nat) : ∀ c ∈ Go.Lib.decDigits n, dig c = true := by
  induction n using Nat.strongRecOn with
  | ind n ih =>
    intro c hc
    by_cases h : n < 10
    · rw [Go.Lib.decDigits_one h, List.mem_singleton] at hc
      subst hc
      unfold dig
      rw [digit_nat n h]
      simp
      omega
    · rw [dec_step h] at hc
      rcases List.mem_append.1 hc with hc | hc
      · exact ih (n / 10) (by omega) c hc
      · rw [List.mem_singleton] at hc
        subst hc
        unfold dig
        rw [digit_nat _ (by omega)]
        simp
        omega
theorem dec_val (n : Nat) : valF (Go.Lib.decDigits n) 0 = n := by
  induction n using Nat.strongRecOn with
  | ind n ih =>
    by_cases h : n < 10
    · rw [Go.Lib.decDigits_one h, valF_cons, digit_nat n h]
      show 0 * 10 + (48 + n - 48) = n
      omega
    · rw [dec_step h, valF_snoc, ih (n / 10) (by omega), digit_nat _ (by omega)]
      omega
theorem dec_nat (n : Nat) (h : n ≤ 9223372036854775807) : impl_dec.f (n : Int) = some (decS n) := by
  unfold impl_dec.f strconv_FormatInt_52.f
  rw [if_pos rfl, if_pos (by omega)]
  simp only [Option.bind_some]
  refine congrArg some ?_
  unfold decS Go.Lib.itoa
  rw [if_neg (by omega), Int.toNat_natCast]

theorem parse_dig : ∀ (l : List UInt8) (a : Nat), (∀ c ∈ l, dig c = true) → valF l a < 1844674407370955162 → Go.Lib.parseUintM 18446744073709551615 a l = .ok (valF l a) ∧ a ≤ valF l a := by
  intro l
  induction l with
  | nil => intro a _ _; exact ⟨rfl, Nat.le_refl _⟩
  | cons c t ih =>
    intro a hd hv
    have hc := hd c (List.mem_cons_self ..)
    unfold dig at hc
    simp only [Bool.and_eq_true, decide_eq_true_eq] at hc
    rw [valF_cons] at hv ⊢
    obtain ⟨i1, i2⟩ := ih _ (fun x hx => hd x (List.mem_cons_of_mem _ hx)) hv
    refine ⟨?_, by omega⟩
    simp only [Go.Lib.parseUintM]
    rw [if_pos hc, if_neg (by omega), if_neg (by omega)]
    exact i1
theorem parse_dec (n : Nat) (h : n < 10000000000) : Go.Lib.parseIntB 64 (Go.Lib.decDigits n) = .ok (n : Int) := by
  have hd := dec_dig n
  have hv := dec_val n
  have hp := (parse_dig (Go.Lib.decDigits n) 0 hd (by rw [hv]; omega)).1
  rw [hv] at hp
  have hne := dec_ne n
  generalize Go.Lib.decDigits n = l at *
  match l, hne with
  | c :: r, _ =>
    have hc := hd c (List.mem_cons_self ..)
    unfold dig at hc
    simp only [Bool.and_eq_true, decide_eq_true_eq] at hc
    have hu : Go.Lib.parseUintB 64 (c :: r) = .ok n := by
      unfold Go.Lib.parseUintB
      rw [if_neg (by simp)]
      exact hp
    unfold Go.Lib.parseIntB
    simp only
    rw [if_neg (by omega), hu]
    simp only
    rw [if_neg (by omega), if_neg (by omega), if_neg (by omega)]
theorem numR_some (n high : Nat) (h : n ≤ high) (hh : high < 10000000000) : numR (Go.Lib.decDigits n) (high : Int) = (n : Int) := by
  unfold numR
  rw [parse_dec n (by omega)]
  simp only
  refine if_pos ⟨by omega, by omega, ?_⟩
  unfold Go.Lib.itoa
  rw [if_neg (by omega), Int.toNat_natCast]

theorem rdB_nat {xs : List ByteArray} {n : Nat} (h : n < xs.length) : rdOf ByteArray.empty xs (n : Int) = xs[n] := by simp [rdOf, List.getD_eq_getElem?_getD, List.getElem?_eq_getElem h]

/-- The words of a joined list, one by one. -/
theorem joinS_snoc (l : List ByteArray) (s x : ByteArray) (h : l ≠ []) : joinS (l ++ [x]) s = joinS l s ++ s ++ x := by
  apply ByteArray.ext
  simp only [joinS, ByteArray.data_append]
  cases l with
  | nil => exact absurd rfl h
  | cons a t =>
    rw [List.cons_append, List.map_cons, List.map_cons, Go.Lib.join_cons, Go.Lib.join_cons, List.map_append]
    simp [Go.Lib.joinTail]
theorem joinS_nil (s : ByteArray) : joinS [] s = ⟨#[]⟩ := rfl
theorem joinS_one (x s : ByteArray) : joinS [x] s = x := by
  apply ByteArray.ext
  simp [joinS, Go.Lib.join_one]
theorem joinTail_le (s : List UInt8) (B : Nat) : ∀ (r : List (List UInt8)), (∀ x ∈ r, x.length ≤ B) → (Go.Lib.joinTail s r).length ≤ r.length * (s.length + B) := by
  intro r
  induction r with
  | nil => intro _; simp [Go.Lib.joinTail]
  | cons y t ih =>
    intro h
    have h1 := ih (fun x hx => h x (List.mem_cons_of_mem _ hx))
    have h2 := h y (List.mem_cons_self ..)
    have e : Go.Lib.joinTail s (y :: t) = (s ++ y) ++ Go.Lib.joinTail s t := by simp [Go.Lib.joinTail]
    rw [e, List.length_append, List.length_append, List.length_cons, Nat.succ_mul]
    omega
theorem joinS_le (l : List ByteArray) (s : ByteArray) (B : Nat) (h : ∀ x ∈ l, x.size ≤ B) : (joinS l s).size ≤ l.length * (s.size + B) := by
  rw [joinS_size]
  cases l with
  | nil => simp [Go.Lib.join_nil]
  | cons a t =>
    rw [List.map_cons, Go.Lib.join_cons, List.length_append]
    have h1 := joinTail_le s.data.toList B (t.map (·.data.toList)) (by
      intro x hx
      obtain ⟨y, hy, rfl⟩ := List.mem_map.1 hx
      have := h y (List.mem_cons_of_mem _ hy)
      show y.data.toList.length ≤ B
      rw [Array.length_toList]
      exact this)
    have h2 := h a (List.mem_cons_self ..)
    rw [List.length_map] at h1
    have h3 : a.data.toList.length = a.size := Array.length_toList
    have h4 : s.data.toList.length = s.size := Array.length_toList
    rw [h4] at h1
    rw [h3, List.length_cons, Nat.succ_mul]
    omega

theorem ba_assoc (a b c : ByteArray) : a ++ b ++ c = a ++ (b ++ c) := ByteArray.ext (by simp [ByteArray.data_append, Array.append_assoc])
theorem ba_nil (a : ByteArray) : a ++ (⟨#[]⟩ : ByteArray) = a := ByteArray.ext (by simp [ByteArray.data_append])
theorem nil_ba (a : ByteArray) : (⟨#[]⟩ : ByteArray) ++ a = a := ByteArray.ext (by simp [ByteArray.data_append])
def dn (x : Int) : ByteArray := decS x.toNat
def com : ByteArray := ⟨#[44]⟩
def spg : ByteArray := ⟨#[32]⟩
def rowS (row : List Int) : ByteArray := if row.length = 0 then ⟨#[45]⟩ else joinS (row.map dn) com
theorem dn_size {x : Int} (h : 0 ≤ x ∧ x ≤ 60) : (dn x).size ≤ 61 := by
  have h1 := decS_size x.toNat
  have h2 := nDigits_le x.toNat
  unfold dn
  omega
theorem dn_impl {x : Int} (h : 0 ≤ x ∧ x ≤ 60) : impl_dec.f x = some (dn x) := by
  have := dec_nat x.toNat (by omega)
  rw [show ((x.toNat : Nat) : Int) = x by omega] at this
  exact this
theorem part_le (row : List Int) (h : ∀ x ∈ row, 0 ≤ x ∧ x ≤ 60) (hl : row.length ≤ 60) (n : Nat) : (joinS ((row.take n).map dn) com).size ≤ 3720 := by
  have h1 := joinS_le ((row.take n).map dn) com 61 (by
    intro x hx
    obtain ⟨y, hy, rfl⟩ := List.mem_map.1 hx
    exact dn_size (h y (List.mem_of_mem_take hy)))
  have h2 : com.size = 1 := rfl
  rw [List.length_map, List.length_take, h2] at h1
  omega
theorem rowS_le (row : List Int) (h : ∀ x ∈ row, 0 ≤ x ∧ x ≤ 60) (hl : row.length ≤ 60) : (rowS row).size ≤ 3720 := by
  unfold rowS
  by_cases c : row.length = 0
  · rw [if_pos c]
    show 1 ≤ 3720
    omega
  · rw [if_neg c]
    have := part_le row h hl row.length
    rw [List.take_of_length_le (Nat.le_refl _)] at this
    exact this
theorem rows_le (g : List (List Int)) (h : ∀ row ∈ g, row.length ≤ 60 ∧ ∀ x ∈ row, 0 ≤ x ∧ x ≤ 60) (hl : g.length ≤ 60) (n : Nat) : (joinS ((g.take n).map rowS) spg).size ≤ 223260 := by
  have h1 := joinS_le ((g.take n).map rowS) spg 3720 (by
    intro x hx
    obtain ⟨y, hy, rfl⟩ := List.mem_map.1 hx
    have := h y (List.mem_of_mem_take hy)
    exact rowS_le y this.2 this.1)
  have h2 : spg.size = 1 := rfl
  rw [List.length_map, List.length_take, h2] at h1
  omega
theorem take_map {α : Type} (f : α → ByteArray) (l : List α) (n : Nat) (h : n < l.length) : (l.take (n + 1)).map f = (l.take n).map f ++ [f l[n]] := by
  rw [List.take_succ_eq_append_getElem h, List.map_append]
  rfl
theorem join_next {α : Type} (f : α → ByteArray) (s : ByteArray) (l : List α) (n : Nat) (h : n < l.length) (h0 : n ≠ 0) : joinS ((l.take (n + 1)).map f) s = joinS ((l.take n).map f) s ++ s ++ f l[n] := by
  rw [take_map f l n h]
  refine joinS_snoc _ _ _ ?_
  intro hc
  have := congrArg List.length hc
  rw [List.length_map, List.length_take, List.length_nil] at this
  omega
theorem join_first {α : Type} (f : α → ByteArray) (s : ByteArray) (l : List α) (h : 0 < l.length) : joinS ((l.take (0 + 1)).map f) s = f l[0] := by
  rw [take_map f l 0 h]
  exact joinS_one _ _
section
variable (g : List (List Int)) (hg : ∀ row ∈ g, row.length ≤ 60 ∧ ∀ x ∈ row, 0 ≤ x ∧ x ≤ 60) (hl : g.length ≤ 60)
include hg hl
theorem impl_row_ev (i : Nat) (hi : i < g.length) (R : ByteArray)
    (hk : Ev (fun k => impl_GameText.l0 k ((g.take (i + 1)).map rowS) g (g.length : Int) ((i + 1 : Nat) : Int)) R) :
    ∀ (d j : Nat), j + d = g[i].length → Ev (fun k => impl_GameText.l1 k ((g.take i).map rowS) ((g[i].take j).map dn) g (g.length : Int) (i : Int) g[i] (g[i].length : Int) (j : Int)) R := by
  have hrow := hg g[i] (List.getElem_mem hi)
  have hwl : ((g.take i).map rowS).length = i := by rw [List.length_map, List.length_take]; omega
  intro d
  induction d with
  | zero =>
    intro j h
    refine Ev_round ?_
    simp only [impl_GameText.l1]
    rw [List.take_of_length_le (show g[i].length ≤ j by omega), List.length_map, hwl, w64 (x := (i : Int) + 1) (by omega) (by omega)]
    refine Ev_neg (by omega) ?_
    rw [take_map rowS g i hi] at hk
    by_cases he : g[i].length = 0
    · refine Ev_pos (by omega) (Ev_bind1 (a := rowS g[i]) ?_ (Ev_pos (by omega) hk))
      unfold rowS strings_Join.f
      rw [if_pos he]
      rw [joinS_one]
      exact if_pos ⟨by simp, by decide⟩
    · refine Ev_neg (by omega) (Ev_bind1 (a := rowS g[i]) ?_ (Ev_pos (by omega) hk))
      have hp := part_le g[i] hrow.2 hrow.1 g[i].length
      rw [List.take_of_length_le (Nat.le_refl _)] at hp
      unfold rowS strings_Join.f
      rw [if_neg he]
      exact if_pos ⟨by rw [List.length_map]; omega, Nat.le_trans hp (by decide)⟩
  | succ d ih =>
    intro j h
    have hj : j < g[i].length := by omega
    have hx := hrow.2 _ (List.getElem_mem hj)
    refine Ev_round ?_
    simp only [impl_GameText.l1]
    rw [rd_nat hj, w64 (x := g[i][j]) (by omega) (by omega), w64 (x := (j : Int) + 1) (by omega) (by omega)]
    refine Ev_pos (by omega) (Ev_pos (by omega) (Ev_pos (by omega) (Ev_bind1 (dn_impl hx) (Ev_pos (by rw [List.length_map, List.length_take]; omega) ?_))))
    rw [← take_map dn g[i] j hj]
    exact ih (j + 1) (by omega)
theorem impl_text_ev : ∀ (d i : Nat), i + d = g.length → Ev (fun k => impl_GameText.l0 k ((g.take i).map rowS) g (g.length : Int) (i : Int)) (joinS (g.map rowS) spg) := by
  intro d
  induction d with
  | zero =>
    intro i h
    refine Ev_round ?_
    simp only [impl_GameText.l0]
    rw [List.take_of_length_le (by omega)]
    refine Ev_neg (by omega) (Ev_bind1 (a := joinS (g.map rowS) spg) ?_ (Ev.now _))
    have hw := rows_le g hg hl g.length
    rw [List.take_of_length_le (Nat.le_refl _)] at hw
    unfold strings_Join.f
    exact if_pos ⟨by rw [List.length_map]; omega, Nat.le_trans hw (by decide)⟩
  | succ d ih =>
    intro i h
    have hi : i < g.length := by omega
    refine Ev_round ?_
    simp only [impl_GameText.l0]
    rw [rdL2_nat hi]
    exact Ev_pos (by omega) (Ev_pos (by omega) (Ev_pos (by omega) (impl_row_ev g hg hl i hi _ (ih (i + 1) (by omega)) g[i].length 0 (by omega))))
end
theorem cutL_no (c : UInt8) : ∀ (a cur : List UInt8), c ∉ a → cutL c cur a = [cur ++ a] := by
  intro a
  induction a with
  | nil => intro cur _; simp [cutL]
  | cons x t ih =>
    intro cur h
    simp only [cutL]
    rw [if_neg (fun e => h (by rw [e]; simp)), ih _ (fun e => h (List.mem_cons_of_mem _ e))]
    simp
theorem cutL_hit (c : UInt8) : ∀ (a cur t : List UInt8), c ∉ a → cutL c cur (a ++ c :: t) = (cur ++ a) :: cutL c [] t := by
  intro a
  induction a with
  | nil => intro cur t _; simp [cutL]
  | cons x r ih =>
    intro cur t h
    simp only [List.cons_append, cutL]
    rw [if_neg (fun e => h (by rw [e]; simp)), ih _ _ (fun e => h (List.mem_cons_of_mem _ e))]
    simp
theorem cut_join (c : UInt8) : ∀ (xs : List ByteArray), xs ≠ [] → (∀ x ∈ xs, c ∉ x.data.toList) → cutL c [] (joinS xs (⟨#[c]⟩ : ByteArray)).data.toList = xs.map (·.data.toList) := by
  intro xs
  induction xs with
  | nil => intro h _; exact absurd rfl h
  | cons x t ih =>
    intro _ hx
    have h1 := hx x (List.mem_cons_self ..)
    cases t with
    | nil =>
      rw [joinS_one, cutL_no c _ _ h1]
      simp
    | cons y r =>
      have e : (joinS (x :: y :: r) (⟨#[c]⟩ : ByteArray)).data.toList = x.data.toList ++ c :: (joinS (y :: r) (⟨#[c]⟩ : ByteArray)).data.toList := by
        show (Go.Lib.join ((x :: y :: r).map (·.data.toList)) [c]) = x.data.toList ++ c :: (Go.Lib.join ((y :: r).map (·.data.toList)) [c])
        rw [List.map_cons, Go.Lib.join_cons, List.map_cons, Go.Lib.join_cons]
        simp [Go.Lib.joinTail]
      rw [e, cutL_hit c _ _ _ h1, ih (by simp) (fun z hz => hx z (List.mem_cons_of_mem _ hz))]
      simp
theorem mkB_back (xs : List ByteArray) : (xs.map (·.data.toList)).map mkB = xs := by
  rw [List.map_map]
  conv => rhs; rw [← List.map_id xs]
  apply List.map_congr_left
  intro x _
  exact ByteArray.ext (by simp [mkB])
theorem dn_data (x : Int) : (dn x).data.toList = Go.Lib.decDigits x.toNat := rfl
theorem dn_bytes (x : Int) (c : UInt8) (hc : dig c = false) : c ∉ (dn x).data.toList := by
  rw [dn_data]
  intro h
  rw [dec_dig _ c h] at hc
  cases hc
theorem join_bytes (c d : UInt8) (hcd : c ≠ d) : ∀ (xs : List ByteArray), (∀ x ∈ xs, c ∉ x.data.toList) → c ∉ (joinS xs (⟨#[d]⟩ : ByteArray)).data.toList := by
  intro xs
  induction xs with
  | nil => intro _; simp [joinS, Go.Lib.join_nil]
  | cons x t ih =>
    intro h hm
    cases t with
    | nil => rw [joinS_one] at hm; exact h x (List.mem_cons_self ..) hm
    | cons y r =>
      have e : (joinS (x :: y :: r) (⟨#[d]⟩ : ByteArray)).data.toList = x.data.toList ++ d :: (joinS (y :: r) (⟨#[d]⟩ : ByteArray)).data.toList := by
        show (Go.Lib.join ((x :: y :: r).map (·.data.toList)) [d]) = x.data.toList ++ d :: (Go.Lib.join ((y :: r).map (·.data.toList)) [d])
        rw [List.map_cons, Go.Lib.join_cons, List.map_cons, Go.Lib.join_cons]
        simp [Go.Lib.joinTail]
      rw [e] at hm
      rcases List.mem_append.1 hm with hm | hm
      · exact h x (List.mem_cons_self ..) hm
      · rcases List.mem_cons.1 hm with hm | hm
        · exact hcd hm
        · exact ih (fun z hz => h z (List.mem_cons_of_mem _ hz)) hm
theorem rowS_bytes (row : List Int) : (32 : UInt8) ∉ (rowS row).data.toList := by
  unfold rowS
  by_cases c : row.length = 0
  · rw [if_pos c]; decide
  · rw [if_neg c]
    refine join_bytes 32 44 (by decide) _ (fun x hx => ?_)
    obtain ⟨y, _, rfl⟩ := List.mem_map.1 hx
    exact dn_bytes y 32 (by decide)
theorem rowS_words (g : List (List Int)) (h : g ≠ []) : (cutL 32 [] (joinS (g.map rowS) spg).data.toList).map mkB = g.map rowS := by
  have := cut_join 32 (g.map rowS) (by simpa using h) (fun x hx => by obtain ⟨y, _, rfl⟩ := List.mem_map.1 hx; exact rowS_bytes y)
  rw [show (⟨#[32]⟩ : ByteArray) = spg from rfl] at this
  rw [this]
  exact mkB_back _
theorem rowS_parts (row : List Int) (h : row.length ≠ 0) : (cutL 44 [] (rowS row).data.toList).map mkB = row.map dn := by
  unfold rowS
  rw [if_neg h]
  have := cut_join 44 (row.map dn) (by intro e; apply h; have := congrArg List.length e; simpa using this) (fun x hx => by obtain ⟨y, _, rfl⟩ := List.mem_map.1 hx; exact dn_bytes y 44 (by decide))
  rw [show (⟨#[44]⟩ : ByteArray) = com from rfl] at this
  rw [this]
  exact mkB_back _
theorem rowS_dash (row : List Int) (h : row.length ≠ 0) : (rowS row).toList ≠ ([45] : List UInt8) := by
  intro e
  rw [Go.Lib.toList_data] at e
  have hp := rowS_parts row h
  rw [e] at hp
  have hl := congrArg List.length hp
  have hm : cutL 44 [] ([45] : List UInt8) = [[45]] := by decide
  rw [hm] at hp
  match row, h with
  | x :: t, _ =>
    simp only [List.map_cons, List.map_nil] at hp
    have h0 : mkB [45] = dn x := (List.cons.inj hp).1
    have h1 : (mkB [45]).data.toList = (dn x).data.toList := congrArg (fun b => b.data.toList) h0
    have h2 := dn_bytes x 45 (by decide)
    rw [← h1] at h2
    exact h2 (by simp [mkB])
theorem num_dn2 (x : Int) (h : 0 ≤ x ∧ x ≤ 60) : impl_number.f (dn x) 60 = some x := by
  have hsz := dn_size h
  unfold impl_number.f
  rw [if_pos (by omega), dn_data]
  have := numR_some x.toNat 60 (by omega) (by omega)
  rw [show ((60 : Nat) : Int) = 60 from rfl, show ((x.toNat : Nat) : Int) = x by omega] at this
  rw [this]
theorem split_row (row : List Int) (h : ∀ x ∈ row, 0 ≤ x ∧ x ≤ 60) (hl : row.length ≤ 60) (h0 : row.length ≠ 0) : strings_Split.f (rowS row) (⟨#[44]⟩ : ByteArray) = some (row.map dn) := by
  have := rowS_le row h hl
  unfold strings_Split.f
  rw [if_pos ⟨by omega, by decide⟩, splitS_cut, rowS_parts row h0]
/-- The program reads back what the texts say. -/
theorem impl_back_row (g : List (List Int)) (hg : ∀ row ∈ g, row.length ≤ 60 ∧ ∀ x ∈ row, 0 ≤ x ∧ x ≤ 60) (hl : g.length ≤ 60) (i : Nat) (hi : i < g.length) (p : List (List Int) × Int)
    (hk : Ev (fun k => impl_ReadGame.l0 k (g.take (i + 1)) (g.map rowS) (g.length : Int) ((i + 1 : Nat) : Int)) p) :
    ∀ (e j : Nat), j + e = g[i].length → Ev (fun k => impl_ReadGame.l1 k (g.take i) (g[i].take j) (g.map rowS) (g.length : Int) (i : Int) (g[i].map dn) (g[i].length : Int) (j : Int)) p := by
  have hrow := hg g[i] (List.getElem_mem hi)
  intro e
  induction e with
  | zero =>
    intro j h
    refine Ev_round ?_
    simp only [impl_ReadGame.l1]
    rw [List.take_of_length_le (show g[i].length ≤ j by omega), w64 (x := (i : Int) + 1) (by omega) (by omega), List.length_take]
    rw [List.take_succ_eq_append_getElem hi] at hk
    exact Ev_neg (by omega) (Ev_pos (by omega) hk)
  | succ e ih =>
    intro j h
    have hj : j < g[i].length := by omega
    have hx := hrow.2 _ (List.getElem_mem hj)
    refine Ev_round ?_
    simp only [impl_ReadGame.l1]
    have hrd : rdOf ByteArray.empty (g[i].map dn) (j : Int) = dn g[i][j] := by rw [rdB_nat (by rw [List.length_map]; exact hj), List.getElem_map]
    rw [hrd, List.length_map, w64 (x := (j : Int) + 1) (by omega) (by omega), List.length_take]
    refine Ev_pos (by omega) (Ev_pos (by omega) (Ev_pos (by omega) (Ev_bind1 (num_dn2 _ hx) (Ev_neg (by omega) (Ev_pos (by omega) ?_)))))
    rw [wi8 (by omega) (by omega), ← List.take_succ_eq_append_getElem hj]
    exact ih (j + 1) (by omega)
theorem impl_back (g : List (List Int)) (hV : validG g = true) (hg : ∀ row ∈ g, row.length ≤ 60 ∧ ∀ x ∈ row, 0 ≤ x ∧ x ≤ 60) (hl : g.length ≤ 60) : ∀ (d i : Nat), i + d = g.length → Ev (fun k => impl_ReadGame.l0 k (g.take i) (g.map rowS) (g.length : Int) (i : Int)) (g, 0) := by
  intro d
  induction d with
  | zero =>
    intro i h
    have hv2 := impl_valid_ev g (by omega) (fun mv hm => ⟨by have := (hg mv hm).1; omega, fun x hx => by have := (hg mv hm).2 x hx; omega⟩)
    rw [hV] at hv2
    refine Ev_round ?_
    simp only [impl_ReadGame.l0]
    rw [List.take_of_length_le (by omega)]
    exact Ev_neg (by omega) (Ev.bind hv2 (Ev_pos (by trivial) (Ev.now _)))
  | succ d ih =>
    intro i h
    have hi : i < g.length := by omega
    have hrow := hg g[i] (List.getElem_mem hi)
    have hrd : rdOf ByteArray.empty (g.map rowS) (i : Int) = rowS g[i] := by rw [rdB_nat (by rw [List.length_map]; exact hi), List.getElem_map]
    refine Ev_round ?_
    simp only [impl_ReadGame.l0, Option.bind_some]
    rw [hrd, List.length_map]
    by_cases c : g[i].length = 0
    · have e : g[i] = [] := List.length_eq_zero_iff.1 c
      have h45 : (rowS g[i]).toList = ([45] : List UInt8) := by
        rw [Go.Lib.toList_data]
        unfold rowS
        rw [if_pos c]
      rw [w64 (x := (i : Int) + 1) (by omega) (by omega), List.length_take]
      refine Ev_pos (by omega) (Ev_pos (by omega) (Ev_pos (by omega) (Ev_pos h45 (Ev_pos (by omega) ?_))))
      have := ih (i + 1) (by omega)
      rw [List.take_succ_eq_append_getElem hi, e] at this
      exact this
    · rw [split_row g[i] hrow.2 hrow.1 c]
      simp only [Option.bind_some, List.length_map]
      exact Ev_pos (by omega) (Ev_pos (by omega) (Ev_pos (by omega) (Ev_neg (rowS_dash _ c) (impl_back_row g hg hl i hi _ (ih (i + 1) (by omega)) g[i].length 0 (by omega)))))
theorem valid_gs {g : List (List Int)} (h : validG g = true) : ∀ row ∈ g, row.length ≤ 60 ∧ ∀ x ∈ row, 0 ≤ x ∧ x ≤ 60 := by
  have h1 := valid_len h
  intro mv hm
  obtain ⟨j, hj, rfl⟩ := List.getElem_of_mem hm
  have h2 := valid_row_len h j hj
  have h3 := valid_at h j hj
  exact ⟨by omega, fun x hx => by have := h3 x hx; omega⟩
theorem text_ev {g : List (List Int)} (h : validG g = true) : Ev (fun k => impl_GameText.f k g) (joinS (g.map rowS) spg) := by
  have h1 := valid_len h
  have h2 := valid_gs h
  have hv := impl_valid_ev g (by omega) (fun mv hm => ⟨by have := (h2 mv hm).1; omega, fun x hx => by have := (h2 mv hm).2 x hx; omega⟩)
  rw [h] at hv
  refine Ev.bind hv (Ev_pos rfl ?_)
  exact impl_text_ev g h2 h1.2 g.length 0 (by omega)
theorem back_ev {g : List (List Int)} (h : validG g = true) : Ev (fun k => impl_ReadGame.f k (joinS (g.map rowS) spg)) (g, 0) := by
  have h1 := valid_len h
  have h2 := valid_gs h
  have hw := rows_le g h2 h1.2 g.length
  rw [List.take_of_length_le (Nat.le_refl _)] at hw
  have hs : strings_Split.f (joinS (g.map rowS) spg) (⟨#[32]⟩ : ByteArray) = some (g.map rowS) := by
    unfold strings_Split.f
    rw [if_pos ⟨by omega, by decide⟩, splitS_cut, rowS_words g (by intro e; rw [e] at h1; simp at h1)]
  refine Ev_bind1 hs ?_
  rw [List.length_map]
  exact impl_back g h h2 h1.2 g.length 0 (by omega)

theorem okPlace_eq (G : Nat) (p : Int) (hG : G ≤ 1048576) : okPlace G p = decide (0 ≤ p ∧ p ≤ (G : Int) - 1) := by
  unfold okPlace
  rw [w64 (by omega) (by omega), Bool.decide_and]
/-- What placeCode answers. -/
def placeR (g : List (List Int)) (l : List Int) : Int := if validG g = true then (if (l.any fun p => !(decide (0 ≤ p ∧ p ≤ (g.length : Int) - 1))) = true then 2 else 0) else 1
theorem place_ev (g : List (List Int)) (hl : g.length ≤ 1048576) (hr : ∀ mv ∈ g, mv.length ≤ 1048576 ∧ ∀ x ∈ mv, -128 ≤ x ∧ x ≤ 127) (l : List Int) : Ev (fun k => impl_placeCode.f k g l) (placeR g l) := by
  unfold impl_placeCode.f placeR
  simp only [okPlace_eq _ _ hl]
  refine Ev.bind (impl_valid_ev g hl hr) ?_
  exact Ev_ite (fun _ => Ev_ite (fun _ => Ev.now _) (fun _ => Ev.now _)) (fun _ => Ev.now _)
theorem placeR_zero {g : List (List Int)} {l : List Int} (h : placeR g l = 0) : validG g = true ∧ ∀ p ∈ l, 0 ≤ p ∧ p ≤ (g.length : Int) - 1 := by
  unfold placeR at h
  by_cases c : validG g = true
  · rw [if_pos c] at h
    refine ⟨c, fun p hp => ?_⟩
    apply Classical.byContradiction
    intro hn
    rw [if_pos (List.any_eq_true.2 ⟨p, hp, by simp only [hn, decide_false, Bool.not_false]⟩)] at h
    exact absurd h (by decide)
  · rw [if_neg c] at h
    exact absurd h (by decide)

theorem sumCode_ev (g : List (List Int)) (hl : g.length ≤ 1048576) (hr : ∀ mv ∈ g, mv.length ≤ 1048576 ∧ ∀ x ∈ mv, -128 ≤ x ∧ x ≤ 127) (l : List Int) : Ev (fun k => impl_sumCode.f k g l) (placedR g l) := by
  unfold impl_sumCode.f
  refine Ev.bind (impl_valid_ev g hl hr) ?_
  have hp := place_ev g hl hr l
  unfold placeR at hp
  unfold placedR
  by_cases c : validG g = true
  · rw [if_pos c] at hp ⊢
    refine Ev_pos c ?_
    by_cases c2 : (l.length : Int) > 12
    · rw [if_pos c2]; exact Ev_pos c2 (Ev.now _)
    · rw [if_neg c2]; exact Ev_neg c2 (Ev.bind hp (Ev.now _))
  · rw [if_neg c] at hp ⊢
    exact Ev_neg c (Ev.bind hp (Ev.now _))

theorem impl_sumP_ev (vals l : List Int) (hl : l.length ≤ 1048576) (hp : ∀ p ∈ l, 0 ≤ p ∧ p < (vals.length : Int)) : Ev (fun k => impl_sumAt.f k vals l) (sumP vals l) :=
  fold_loop (L := fun k s i => impl_sumAt.l0 k vals s l l.length i) (f := fun s p => X s (rd vals p)) (fin := id) l (fun _ _ => True)
    (fun k s n h _ => by
      have := hp _ (List.getElem_mem h)
      simp only [impl_sumAt.l0]
      rw [rd_nat h, if_pos (by omega), if_pos (by omega), if_pos (by omega), if_pos this.1, if_pos this.2, w64 (by omega) (by omega)]
      rfl)
    (fun _ _ _ _ => trivial)
    (fun k s _ => by simp only [impl_sumAt.l0]; rw [if_neg (by omega)]; rfl) l.length 0 0 (by omega) trivial

set_option maxHeartbeats 1000000 in
theorem impl_wm_loop (g : List (List Int)) (hv : validG g = true) (V : List Int) (hV : V.length = g.length) (s : Int) (l : List Int) (hl : l.length ≤ 12) (hp : ∀ p ∈ l, 0 ≤ p ∧ p ≤ (g.length : Int) - 1) :
    ∀ (d i : Nat), i + d = l.length → Ev (fun k => impl_WinningMoves.l0 k g V (wmDone g V s l i) s l (l.length : Int) (i : Int)) (wmDone g V s l l.length, 0) := by
  intro d
  induction d with
  | zero =>
    intro i h
    obtain rfl : i = l.length := by omega
    refine Ev_round ?_
    simp only [impl_WinningMoves.l0]
    exact Ev_neg (by omega) (Ev.now _)
  | succ d ih =>
    intro i h
    have hi : i < l.length := by omega
    have hpi := hp _ (List.getElem_mem hi)
    have nx := ih (i + 1) (by omega)
    obtain ⟨P, hP⟩ := Int.eq_ofNat_of_zero_le hpi.1
    have hr : rd l (i : Int) = (P : Int) := by rw [rd_nat hi]; exact hP
    have hPg : P < g.length := by omega
    have hg60 := valid_len hv
    have hrow := valid_row_len hv P hPg
    have hrx := valid_at hv P hPg
    have hro := rowAt_nat hPg
    have hrd := rdL2_nat hPg
    have hsz := wmDone_len g hv V s l i
    generalize g[P] = row at hrow hrx hro hrd
    have inner : ∀ (e n : Nat), n + e = row.length → Ev (fun k => impl_WinningMoves.l1 k g V (wmDone g V s l i ++ wmRow V s i (P : Int) row n) s (i : Int) (P : Int) l (l.length : Int) (i : Int) row (row.length : Int) (n : Int)) (wmDone g V s l l.length, 0) := by
      intro e
      induction e with
      | zero =>
        intro n hn
        obtain rfl : n = row.length := by omega
        refine Ev_round ?_
        simp only [impl_WinningMoves.l1]
        refine Ev_neg (by omega) ?_
        rw [w64 (by omega) (by omega)]
        rw [wmDone_succ, hr, hro] at nx
        exact nx
      | succ e ihe =>
        intro n hn
        have hnr : n < row.length := by omega
        have hx := hrx _ (List.getElem_mem hnr)
        refine Ev_round ?_
        simp only [impl_WinningMoves.l1]
        have nx2 := ihe (n + 1) (by omega)
        rw [wmRow_succ V s i (P : Int) row n hnr] at nx2
        have h2 := wmRow_len V s i (P : Int) row n
        have hlen : (wmDone g V s l i ++ wmRow V s i (P : Int) row n).length < 8796093022208 := by rw [List.length_append]; omega
        rw [rd_nat hnr]
        generalize row[n] = t at hx nx2
        rw [w64 (x := t) (by omega) (by omega), w64 (x := (n : Int) + 1) (by omega) (by omega)]
        refine Ev_pos (by omega) (Ev_pos (by omega) (Ev_pos (by omega) (Ev_pos (by omega) (Ev_pos (by omega) (Ev_pos (by omega) (Ev_pos (by omega) ?_))))))
        by_cases c2 : X (X s (rd V (P : Int))) (rd V t) = 0
        · rw [if_pos (by unfold wmWin; rw [decide_eq_true c2]), ← List.append_assoc] at nx2
          exact Ev_pos c2 (Ev_pos hlen nx2)
        · rw [if_neg (by unfold wmWin; rw [decide_eq_false c2]; decide), List.append_nil] at nx2
          exact Ev_neg c2 nx2
    have hin := inner row.length 0 (by omega)
    rw [wmRow_zero, List.append_nil] at hin
    refine Ev_round ?_
    simp only [impl_WinningMoves.l0]
    refine Ev_pos (by omega) (Ev_pos (by omega) (Ev_pos (by omega) (Ev_pos (by omega) (Ev_pos (by omega) ?_))))
    rw [hr, hrd]
    exact hin
theorem impl_wm_ev (g : List (List Int)) (hl : g.length ≤ 1048576) (hr : ∀ mv ∈ g, mv.length ≤ 1048576 ∧ ∀ x ∈ mv, -128 ≤ x ∧ x ≤ 127) (l : List Int) (hll : l.length ≤ 1048576) : Ev (fun k => impl_WinningMoves.f k g l) (wmR g l) := by
  have hs := sumCode_ev g hl hr l
  unfold wmR
  by_cases c : placedR g l = 0
  · obtain ⟨hv, h12, hp⟩ := placedR_zero c
    rw [if_pos c]
    exact Ev.bind hs (Ev_pos c (Ev.bind (impl_values_ev g hv) (Ev.bind (impl_sumP_ev _ l hll (fun p h => by have := hp p h; rw [GV_len]; omega)) (impl_wm_loop g hv (GV g) (GV_len g) _ l h12 hp l.length 0 (by omega)))))
  · rw [if_neg c]
    exact Ev.bind hs (Ev_neg c (Ev.now _))

theorem lpRow_cons (out : List Int) (y : Int) (t : List Int) (n : Int) : lpRow out (y :: t) n = lpRow out t (if n < rd out y + 1 then rd out y + 1 else n) := rfl
theorem impl_lp_ev (g : List (List Int)) (h : validG g = true) (P : Nat) (hP : P < g.length) : Ev (fun k => impl_LongestPlay.l0 k (P : Int) [] (g.take (P + 1)) ((g.take (P + 1)).length : Int) 0) (rd ((g.take (P + 1)).foldl lpStep []) (P : Int), 0) := by
  have hl := valid_len h
  have hG : (g.take (P + 1)).length = P + 1 := by rw [List.length_take]; omega
  rw [hG]
  have outer : ∀ (d n : Nat), n + d = P + 1 → Ev (fun k => impl_LongestPlay.l0 k (P : Int) ((g.take n).foldl lpStep []) (g.take (P + 1)) ((P + 1 : Nat) : Int) (n : Int)) (rd ((g.take (P + 1)).foldl lpStep []) (P : Int), 0) := by
    intro d
    induction d with
    | zero =>
      intro n hn
      obtain rfl : n = P + 1 := by omega
      refine Ev_round ?_
      simp only [impl_LongestPlay.l0]
      refine Ev_neg (by omega) (Ev_pos (by omega) (Ev_pos ?_ (Ev.now _)))
      rw [lps_len g (P + 1) (by omega)]
      omega
    | succ d ih =>
      intro n hn
      have hlt : n < g.length := by omega
      have hlt2 : n < (g.take (P + 1)).length := by omega
      have nx := ih (n + 1) (by omega)
      rw [lps_take n hlt] at nx
      have ho := lps_len g n (by omega)
      have hr := lps_range h n (by omega)
      have hx := valid_at h n hlt
      have hrl := valid_row_len h n hlt
      have hrow : (g.take (P + 1))[n] = g[n] := List.getElem_take
      generalize hR : rd ((g.take (P + 1)).foldl lpStep []) (P : Int) = R at *
      generalize (g.take n).foldl lpStep [] = out at *
      refine Ev_round ?_
      simp only [impl_LongestPlay.l0]
      refine Ev_pos (by omega) (Ev_pos (by omega) (Ev_pos (by omega) ?_))
      rw [rdL2_nat hlt2, hrow]
      have inner : ∀ (e j : Nat) (m : Int), j + e = g[n].length → 0 ≤ m → m ≤ 61 → lpRow out (g[n].drop j) m = lpRow out g[n] 0 → Ev (fun k => impl_LongestPlay.l1 k (P : Int) out m (g.take (P + 1)) ((P + 1 : Nat) : Int) (n : Int) g[n] g[n].length (j : Int)) (R, 0) := by
        intro e
        induction e with
        | zero =>
          intro j m hj _ _ hm
          obtain rfl : j = g[n].length := by omega
          refine Ev_round ?_
          simp only [impl_LongestPlay.l1]
          refine Ev_neg (by omega) (Ev_pos (by omega) ?_)
          rw [w64 (by omega) (by omega)]
          rw [List.drop_length] at hm
          have hm2 : m = lpRow out g[n] 0 := hm
          rw [hm2]
          exact nx
        | succ e ihe =>
          intro j m hj h0 h61 hm
          have hjl : j < g[n].length := by omega
          obtain ⟨a, b⟩ := hx _ (List.getElem_mem hjl)
          have hv := hr _ (rd_mem (xs := out) a (by omega))
          refine Ev_round ?_
          simp only [impl_LongestPlay.l1]
          rw [rd_nat hjl, w64 (x := rd out g[n][j] + 1) (by omega) (by omega), w64 (by omega) (by omega)]
          refine Ev_pos (by omega) (Ev_pos (by omega) (Ev_pos (by omega) (Ev_pos a (Ev_pos (by omega) ?_))))
          rw [List.drop_eq_getElem_cons hjl, lpRow_cons] at hm
          exact ihe (j + 1) _ (by omega) (by unfold mx; split <;> omega) (by unfold mx; split <;> omega) hm
      exact inner g[n].length 0 0 (by omega) (by omega) (by omega) rfl
  exact outer (P + 1) 0 (by omega)

/-! The values of the places. -/
def gvN (g : List (List Int)) (j : Nat) : Nat := mexN ((g.getD j []).map (rd (GV g)))
theorem gvN_rd {g : List (List Int)} (h : validG g = true) (j : Nat) (hj : j < g.length) : rd (GV g) (j : Int) = ((gvN g j : Nat) : Int) := by
  rw [GV_at h j hj]
  unfold gvN
  rw [List.getD_eq_getElem?_getD, List.getElem?_eq_getElem hj]
  rfl
theorem gvN_is {g : List (List Int)} (h : validG g = true) (j : Nat) (hj : j < g.length) : IsMex (g[j].map (rd (GV g))) (gvN g j) := by
  unfold gvN
  rw [List.getD_eq_getElem?_getD, List.getElem?_eq_getElem hj]
  exact mexN_is _
theorem gvN_le {g : List (List Int)} (h : validG g = true) (j : Nat) (hj : j < g.length) : gvN g j ≤ j := by
  have := (GV_range h j hj).2
  rw [gvN_rd h j hj] at this
  omega
theorem gvN_ne {g : List (List Int)} (h : validG g = true) (j t : Nat) (hj : j < g.length) (ht : (t : Int) ∈ g[j]) : t < j ∧ gvN g t ≠ gvN g j := by
  have h1 := valid_at h j hj _ ht
  have htj : t < j := by omega
  refine ⟨htj, fun e => ?_⟩
  have hm := (gvN_is h j hj).1
  apply hm
  rw [← e, ← gvN_rd h t (by omega)]
  exact List.mem_map.2 ⟨_, ht, rfl⟩
theorem gvN_ex {g : List (List Int)} (h : validG g = true) (j m : Nat) (hj : j < g.length) (hm : m < gvN g j) : ∃ t : Nat, t < j ∧ (t : Int) ∈ g[j] ∧ gvN g t = m := by
  have h1 := (gvN_is h j hj).2 m hm
  obtain ⟨x, hx, e⟩ := List.mem_map.1 h1
  have h2 := valid_at h j hj x hx
  obtain ⟨t, rfl⟩ := Int.eq_ofNat_of_zero_le h2.1
  refine ⟨t, by omega, hx, ?_⟩
  have := gvN_rd h t (by omega)
  rw [e] at this
  omega
theorem valid_bounds {g : List (List Int)} (h : validG g = true) : g.length ≤ 1048576 ∧ ∀ mv ∈ g, mv.length ≤ 1048576 ∧ ∀ x ∈ mv, -128 ≤ x ∧ x ≤ 127 := by
  have h1 := valid_len h
  refine ⟨by omega, fun mv hm => ?_⟩
  obtain ⟨j, hj, rfl⟩ := List.getElem_of_mem hm
  have h2 := valid_row_len h j hj
  have h3 := valid_at h j hj
  exact ⟨by omega, fun x hx => by have := h3 x hx; omega⟩
theorem gvN_small {g : List (List Int)} (h : validG g = true) (j : Nat) (hj : j < g.length) : gvN g j ≤ 59 := by
  have := gvN_le h j hj
  have := valid_len h
  omega
/-! Sums of values. -/
def PL (g : List (List Int)) (l : List Int) : Prop := ∀ p ∈ l, 0 ≤ p ∧ p ≤ (g.length : Int) - 1
def vs (g : List (List Int)) (l : List Int) : List Nat := l.map fun p => gvN g p.toNat
def xr (a : Nat) (xs : List Nat) : Nat := xs.foldl (· ^^^ ·) a
theorem xr_lin : ∀ (xs : List Nat) (a : Nat), xr a xs = a ^^^ xr 0 xs := by
  intro xs
  induction xs with
  | nil => intro a; simp [xr]
  | cons x t ih =>
    intro a
    show xr (a ^^^ x) t = a ^^^ xr (0 ^^^ x) t
    rw [ih (a ^^^ x), ih (0 ^^^ x), Nat.zero_xor, Nat.xor_assoc]
theorem sum_loop {g : List (List Int)} (h : validG g = true) : ∀ (l : List Int) (a : Nat), PL g l → a < 64 → l.foldl (fun s p => X s (rd (GV g) p)) (a : Int) = ((xr a (vs g l) : Nat) : Int) ∧ xr a (vs g l) < 64 := by
  intro l
  induction l with
  | nil => intro a _ ha; exact ⟨rfl, ha⟩
  | cons p t ih =>
    intro a hp ha
    have h1 := hp p (List.mem_cons_self ..)
    obtain ⟨P, rfl⟩ := Int.eq_ofNat_of_zero_le h1.1
    have hP : P < g.length := by omega
    have hs := gvN_small h P hP
    have hx : X (a : Int) (rd (GV g) (P : Int)) = ((a ^^^ gvN g P : Nat) : Int) := by
      rw [gvN_rd h P hP, X_nat ⟨by omega, by omega⟩ ⟨by omega, by omega⟩]
      simp
    have hlt : a ^^^ gvN g P < 64 := Nat.xor_lt_two_pow (n := 6) (by omega) (by omega)
    rw [List.foldl_cons, hx]
    exact ih (a ^^^ gvN g P) (fun q hq => hp q (List.mem_cons_of_mem _ hq)) hlt
theorem sum_nat {g : List (List Int)} (h : validG g = true) {l : List Int} (hp : PL g l) : sumP (GV g) l = ((xr 0 (vs g l) : Nat) : Int) ∧ xr 0 (vs g l) < 64 := sum_loop h l 0 hp (by omega)
theorem nim_move : ∀ (xs : List Nat) (a c : Nat), c < xr a xs → (∃ a', a' < a ∧ xr a' xs = c) ∨ (∃ i, ∃ h : i < xs.length, ∃ v, v < xs[i] ∧ xr a xs ^^^ xs[i] ^^^ v = c) := by
  intro xs
  induction xs with
  | nil => intro a c h; exact .inl ⟨c, h, rfl⟩
  | cons x t ih =>
    intro a c h
    rcases ih (a ^^^ x) c h with ⟨b, hb, e⟩ | ⟨i, hi, v, hv, e⟩
    · rcases nim_less a x b hb with ⟨a', h1, h2⟩ | ⟨x', h1, h2⟩
      · refine .inl ⟨a', h1, ?_⟩
        show xr (a' ^^^ x) t = c
        rw [h2]; exact e
      · refine .inr ⟨0, by simp, x', h1, ?_⟩
        show xr (a ^^^ x) t ^^^ x ^^^ x' = c
        rw [← e, xr_lin t (a ^^^ x), xr_lin t b, ← h2]
        generalize xr 0 t = T
        rw [Nat.xor_comm a x, Nat.xor_assoc x a T, Nat.xor_comm x (a ^^^ T), Nat.xor_assoc (a ^^^ T) x x, Nat.xor_self, Nat.xor_zero, Nat.xor_assoc, Nat.xor_comm T x', ← Nat.xor_assoc]
    · exact .inr ⟨i + 1, by simp; omega, v, hv, e⟩
theorem vs_len (g : List (List Int)) (l : List Int) : (vs g l).length = l.length := by simp [vs]
theorem xr_set : ∀ (xs : List Nat) (a i v : Nat) (h : i < xs.length), xr a (xs.set i v) = xr a xs ^^^ xs[i] ^^^ v := by
  intro xs
  induction xs with
  | nil => intro a i v h; simp at h
  | cons x t ih =>
    intro a i v h
    cases i with
    | zero =>
      show xr (a ^^^ v) t = xr (a ^^^ x) t ^^^ x ^^^ v
      rw [xr_lin t (a ^^^ v), xr_lin t (a ^^^ x)]
      generalize xr 0 t = T
      rw [Nat.xor_comm a x, Nat.xor_assoc x a T, Nat.xor_comm x (a ^^^ T), Nat.xor_assoc (a ^^^ T) x x, Nat.xor_self, Nat.xor_zero, Nat.xor_assoc, Nat.xor_comm v T, ← Nat.xor_assoc]
    | succ i => exact ih (a ^^^ x) i v (by simpa using h)
/-! Winning moves. -/
theorem win_iff {g : List (List Int)} (h : validG g = true) (S P t : Nat) (hS : S < 64) (hP : P < g.length) (ht : t < g.length) : wmWin (GV g) (S : Int) (P : Int) (t : Int) = true ↔ S ^^^ gvN g P ^^^ gvN g t = 0 := by
  have s1 := gvN_small h P hP
  have s2 := gvN_small h t ht
  have hlt : S ^^^ gvN g P < 64 := Nat.xor_lt_two_pow (n := 6) (by omega) (by omega)
  unfold wmWin
  have e1 : X (S : Int) (rd (GV g) (P : Int)) = ((S ^^^ gvN g P : Nat) : Int) := by
    rw [gvN_rd h P hP, X_nat ⟨by omega, by omega⟩ ⟨by omega, by omega⟩]
    simp
  have e2 : X ((S ^^^ gvN g P : Nat) : Int) (rd (GV g) (t : Int)) = ((S ^^^ gvN g P ^^^ gvN g t : Nat) : Int) := by
    rw [gvN_rd h t ht, X_nat ⟨by omega, by omega⟩ ⟨by omega, by omega⟩]
    simp
  rw [e1, e2, decide_eq_true_eq]
  omega
theorem wm_mem {g : List (List Int)} {V : List Int} {s : Int} {l : List Int} : ∀ (m : Nat) (x : S53), x ∈ wmDone g V s l m ↔ ∃ i, i < m ∧ ∃ t ∈ rowAt g (rd l (i : Int)), wmWin V s (rd l (i : Int)) t = true ∧ x = ⟨(i : Int), t⟩ := by
  intro m
  induction m with
  | zero =>
    intro x
    simp [wmDone]
  | succ m ih =>
    intro x
    rw [wmDone_succ, List.mem_append, ih]
    have hrow : x ∈ wmRow V s m (rd l m) (rowAt g (rd l m)) (rowAt g (rd l m)).length ↔ ∃ t ∈ rowAt g (rd l (m : Int)), wmWin V s (rd l (m : Int)) t = true ∧ x = ⟨(m : Int), t⟩ := by
      unfold wmRow
      rw [List.take_of_length_le (Nat.le_refl _), List.mem_map]
      constructor
      · rintro ⟨t, ht, rfl⟩
        rw [List.mem_filter] at ht
        exact ⟨t, ht.1, ht.2, rfl⟩
      · rintro ⟨t, h1, h2, rfl⟩
        exact ⟨t, List.mem_filter.2 ⟨h1, h2⟩, rfl⟩
    rw [hrow]
    constructor
    · rintro (⟨i, hi, r⟩ | r)
      · exact ⟨i, by omega, r⟩
      · exact ⟨m, by omega, r⟩
    · rintro ⟨i, hi, r⟩
      by_cases e : i = m
      · subst e; exact .inr r
      · exact .inl ⟨i, by omega, r⟩
/-- What a winning move is. -/
theorem wm_at {g : List (List Int)} (h : validG g = true) {l : List Int} (hp : PL g l) (x : S53) (hx : x ∈ wmDone g (GV g) (sumP (GV g) l) l l.length) :
    ∃ i t P : Nat, ∃ hi : i < l.length, x = ⟨(i : Int), (t : Int)⟩ ∧ l[i] = (P : Int) ∧ t < P ∧ P < g.length ∧ gvN g t ≠ gvN g P ∧ xr 0 (vs g l) ^^^ gvN g P ^^^ gvN g t = 0 := by
  obtain ⟨i, hi, t, ht, hw, rfl⟩ := (wm_mem _ _).1 hx
  have h1 := hp _ (List.getElem_mem hi)
  obtain ⟨P, hP⟩ := Int.eq_ofNat_of_zero_le h1.1
  have hPl : P < g.length := by omega
  rw [rd_nat hi, hP, rowAt_nat hPl] at ht
  have h2 := valid_at h P hPl t ht
  obtain ⟨T, rfl⟩ := Int.eq_ofNat_of_zero_le h2.1
  obtain ⟨n1, n2⟩ := gvN_ne h P T hPl ht
  obtain ⟨s1, s2⟩ := sum_nat h hp
  rw [rd_nat hi, hP, s1] at hw
  exact ⟨i, T, P, hi, rfl, hP, n1, hPl, n2, (win_iff h _ P T s2 hPl (by omega)).1 hw⟩
theorem wm_none {g : List (List Int)} (h : validG g = true) {l : List Int} (hp : PL g l) (h0 : xr 0 (vs g l) = 0) : wmDone g (GV g) (sumP (GV g) l) l l.length = [] := by
  apply List.eq_nil_iff_forall_not_mem.2
  intro x hx
  obtain ⟨i, t, P, hi, _, _, _, _, hne, he⟩ := wm_at h hp x hx
  rw [h0, Nat.zero_xor] at he
  apply hne
  have := congrArg (· ^^^ gvN g t) he
  simp only [Nat.xor_assoc, Nat.xor_self, Nat.xor_zero, Nat.zero_xor] at this
  exact this.symm
theorem wm_some {g : List (List Int)} (h : validG g = true) {l : List Int} (hp : PL g l) (h0 : xr 0 (vs g l) ≠ 0) : wmDone g (GV g) (sumP (GV g) l) l l.length ≠ [] := by
  obtain ⟨s1, s2⟩ := sum_nat h hp
  rcases nim_move (vs g l) 0 0 (by omega) with ⟨a', ha, _⟩ | ⟨i, hi, v, hv, e⟩
  · omega
  · have hi2 : i < l.length := by rw [vs_len] at hi; exact hi
    have h1 := hp _ (List.getElem_mem hi2)
    obtain ⟨P, hP⟩ := Int.eq_ofNat_of_zero_le h1.1
    have hPl : P < g.length := by omega
    have hvi : (vs g l)[i] = gvN g P := by simp [vs, hP]
    rw [hvi] at hv e
    obtain ⟨t, t1, t2, t3⟩ := gvN_ex h P v hPl hv
    intro hnil
    have hmem : (⟨(i : Int), (t : Int)⟩ : S53) ∈ wmDone g (GV g) (sumP (GV g) l) l l.length := by
      refine (wm_mem _ _).2 ⟨i, hi2, (t : Int), ?_, ?_, rfl⟩
      · rw [rd_nat hi2, hP, rowAt_nat hPl]
        exact t2
      · rw [rd_nat hi2, hP, s1]
        exact (win_iff h _ P t s2 hPl (by omega)).2 (by rw [t3]; exact e)
    rw [hnil] at hmem
    simp at hmem
/-! A list of values that is changed. -/
theorem rd_set (V : List Int) (i : Nat) (x : Int) (hi : i < V.length) (j : Nat) : rd (V.set i x) (j : Int) = if j = i then x else rd V (j : Int) := by
  unfold rd
  rw [Int.toNat_natCast, List.getD_eq_getElem?_getD, List.getD_eq_getElem?_getD, List.getElem?_set]
  by_cases e : i = j
  · subst e; simp [hi]
  · rw [if_neg e, if_neg (fun q => e q.symm)]
theorem broken_none {g : List (List Int)} (h : validG g = true) : ∀ (d n : Nat), n + d = g.length → brokenR (GV g) g.length (g.drop n) n = -1 := by
  intro d
  induction d with
  | zero =>
    intro n hn
    rw [List.drop_of_length_le (by omega)]
    simp [brokenR, GV_len]
  | succ d ih =>
    intro n hn
    have hlt : n < g.length := by omega
    rw [List.drop_eq_getElem_cons hlt]
    simp only [brokenR]
    rw [GV_len, if_neg (by omega), if_pos (GV_at h n hlt).symm]
    exact ih (n + 1) (by omega)
theorem broken_at {g : List (List Int)} (h : validG g = true) (i : Nat) (hi : i < g.length) (x : Int) (hx : x ≠ rd (GV g) (i : Int)) : ∀ (d n : Nat), n + d = i → brokenR ((GV g).set i x) g.length (g.drop n) n = (i : Int) := by
  have hlen : ((GV g).set i x).length = g.length := by rw [List.length_set, GV_len]
  have hmap : ∀ n (hn : n < g.length), n ≤ i → g[n].map (rd ((GV g).set i x)) = g[n].map (rd (GV g)) := by
    intro n hn hni
    apply List.map_congr_left
    intro y hy
    have h1 := valid_at h n hn y hy
    obtain ⟨Y, rfl⟩ := Int.eq_ofNat_of_zero_le h1.1
    rw [rd_set (GV g) i x (by rw [GV_len]; exact hi), if_neg (by omega)]
  intro d
  induction d with
  | zero =>
    intro n hn
    obtain rfl : n = i := by omega
    rw [List.drop_eq_getElem_cons hi]
    simp only [brokenR]
    rw [hlen, if_neg (by omega), hmap n hi (Nat.le_refl _), ← GV_at h n hi, rd_set (GV g) n x (by rw [GV_len]; exact hi), if_pos rfl]
    exact if_neg (fun e => hx e.symm)
  | succ d ih =>
    intro n hn
    have hlt : n < g.length := by omega
    rw [List.drop_eq_getElem_cons hlt]
    simp only [brokenR]
    rw [hlen, if_neg (by omega), hmap n hlt (by omega), ← GV_at h n hlt, show rd ((GV g).set i x) (n : Int) = rd (GV g) (n : Int) by rw [rd_set (GV g) i x (by rw [GV_len]; exact hi), if_neg (by omega)], if_pos rfl]
    exact ih (n + 1) (by omega)
/-! The longest play. -/
theorem lpRow_lb (out : List Int) : ∀ (mv : List Int) (n : Int), n ≤ lpRow out mv n ∧ ∀ y ∈ mv, rd out y + 1 ≤ lpRow out mv n := by
  intro mv
  induction mv with
  | nil => intro n; exact ⟨Int.le_refl _, by simp⟩
  | cons a t ih =>
    intro n
    obtain ⟨z, hz⟩ : ∃ z, z = (if n < rd out a + 1 then rd out a + 1 else n) := ⟨_, rfl⟩
    have hz2 : n ≤ z ∧ rd out a + 1 ≤ z := by rw [hz]; split <;> omega
    have e : lpRow out (a :: t) n = lpRow out t z := by rw [hz]; rfl
    obtain ⟨i1, i2⟩ := ih z
    rw [e]
    refine ⟨by omega, fun y hy => ?_⟩
    rcases List.mem_cons.1 hy with rfl | hy
    · omega
    · exact i2 y hy
theorem lpRow_ub (out : List Int) (B : Int) : ∀ (mv : List Int) (n : Int), n ≤ B → (∀ y ∈ mv, rd out y + 1 ≤ B) → lpRow out mv n ≤ B := by
  intro mv
  induction mv with
  | nil => intro n h _; exact h
  | cons a t ih =>
    intro n h hy
    have e : lpRow out (a :: t) n = lpRow out t (if n < rd out a + 1 then rd out a + 1 else n) := rfl
    rw [e]
    refine ih _ ?_ (fun y hm => hy y (List.mem_cons_of_mem _ hm))
    have := hy a (List.mem_cons_self ..)
    split <;> omega
theorem lp_prefix : ∀ (g : List (List Int)) (out : List Int) (j : Nat), j < out.length → rd (g.foldl lpStep out) (j : Int) = rd out (j : Int) := by
  intro g
  induction g with
  | nil => intro out j _; rfl
  | cons a t ih =>
    intro out j h
    rw [List.foldl_cons, ih (lpStep out a) j (by simp [lpStep]; omega)]
    unfold lpStep rd
    rw [Int.toNat_natCast, List.getD_eq_getElem?_getD, List.getD_eq_getElem?_getD, List.getElem?_append_left h]
def lpv (g : List (List Int)) (j : Nat) : Int := rd ((g.take (j + 1)).foldl lpStep []) (j : Int)
theorem lpv_is {g : List (List Int)} (j : Nat) (hj : j < g.length) : lpv g j = lpRow ((g.take j).foldl lpStep []) g[j] 0 := by
  unfold lpv
  rw [lps_take j hj]
  have hl := lps_len g j (by omega)
  rw [show lpStep ((g.take j).foldl lpStep []) g[j] = (g.take j).foldl lpStep [] ++ [lpRow ((g.take j).foldl lpStep []) g[j] 0] from rfl]
  unfold rd
  rw [Int.toNat_natCast, List.getD_eq_getElem?_getD, List.getElem?_append_right (by omega), hl, Nat.sub_self]
  rfl
theorem lpv_prev {g : List (List Int)} (t j : Nat) (htj : t < j) (hj : j < g.length) : rd ((g.take j).foldl lpStep []) (t : Int) = lpv g t := by
  unfold lpv
  have e : g.take j = g.take (t + 1) ++ (g.take j).drop (t + 1) := by
    have := (List.take_append_drop (t + 1) (g.take j)).symm
    rw [List.take_take, Nat.min_eq_left (by omega)] at this
    exact this
  rw [e, List.foldl_append, lp_prefix _ _ t (by rw [lps_len g (t + 1) (by omega)]; omega)]
theorem lpv_range {g : List (List Int)} (h : validG g = true) : ∀ (d j : Nat), j < d → j < g.length → ((gvN g j : Nat) : Int) ≤ lpv g j ∧ lpv g j ≤ j ∧ (lpv g j = 0 ↔ g[j]! = []) := by
  intro d
  induction d with
  | zero => intro j h1; omega
  | succ d ih =>
    intro j hjd hj
    have hjb : g[j]! = g[j] := by simp [hj]
    rw [hjb, lpv_is j hj]
    obtain ⟨l1, l2⟩ := lpRow_lb ((g.take j).foldl lpStep []) g[j] 0
    have hy : ∀ y ∈ g[j], ∃ t : Nat, y = (t : Int) ∧ t < j ∧ rd ((g.take j).foldl lpStep []) y = lpv g t := by
      intro y hm
      have h1 := valid_at h j hj y hm
      obtain ⟨t, rfl⟩ := Int.eq_ofNat_of_zero_le h1.1
      exact ⟨t, rfl, by omega, lpv_prev t j (by omega) hj⟩
    refine ⟨?_, ?_, ?_⟩
    · rcases Nat.eq_zero_or_pos (gvN g j) with z | z
      · rw [z]; exact l1
      · obtain ⟨t, t1, t2, t3⟩ := gvN_ex h j (gvN g j - 1) hj (by omega)
        have a := l2 _ t2
        rw [lpv_prev t j t1 hj] at a
        have b := (ih t (by omega) (by omega)).1
        omega
    · refine lpRow_ub _ _ _ _ (by omega) (fun y hm => ?_)
      obtain ⟨t, rfl, t1, t2⟩ := hy y hm
      have := (ih t (by omega) (by omega)).2.1
      omega
    · constructor
      · intro e
        match hgj : g[j] with
        | [] => rfl
        | y :: r =>
          exfalso
          have hm : y ∈ g[j] := by rw [hgj]; simp
          obtain ⟨t, rfl, t1, t2⟩ := hy y hm
          have a := l2 _ hm
          have b := (ih t (by omega) (by omega)).1
          omega
      · intro e
        rw [e]
        rfl
/-! What is drawn. -/
theorem pick_any (bs : List Int) (hb : ∀ x ∈ bs, 0 ≤ x ∧ x ≤ 255) (hl : bs.length ≤ 4096) (n : Int) (h1 : 1 ≤ n) (h2 : n ≤ 200) : ∃ v : Int, spec_P6Pick.f bs n = some v ∧ 0 ≤ v ∧ v < n := by
  unfold spec_P6Pick.f spec_l00From.f
  simp only [Option.bind_some]
  by_cases c : n ≤ 1
  · refine ⟨0, ?_, by omega, by omega⟩
    unfold spec_l00Src_pick.f
    rw [if_pos c]
    rfl
  · obtain ⟨v, sd, e, a, b⟩ := pick_ok bs hb hl 0 (by omega) 0 n (by omega) h2
    have e' : spec_l00Src_pick.f bs 0 0 n = _ := e
    rw [e']
    exact ⟨v, rfl, a, b⟩
theorem game_ok (bs : List Int) (hb : ∀ x ∈ bs, 0 ≤ x ∧ x ≤ 255) (hl : bs.length ≤ 4096) : ∃ g, Ev (fun k => spec_P6Game.f k bs) g ∧ validG g = true ∧ g.length ≤ 12 := by
  obtain ⟨g, i, sd, h, hv, h12⟩ := drawn_ok bs hb hl
  exact ⟨g, Ev_bind1 (show spec_l00From.f bs = some (bs, 0, 0) from rfl) (Ev.bind h (Ev.now _)), hv, h12⟩
theorem places_ok (bs : List Int) (hb : ∀ x ∈ bs, 0 ≤ x ∧ x ≤ 255) (hl : bs.length ≤ 4096) {g : List (List Int)} (h : validG g = true) : ∃ l : List Int, Ev (fun k => spec_P6Places.f k bs g) l ∧ l.length ≤ 4 ∧ PL g l := by
  have hg := valid_len h
  have step : ∀ (i : Nat) (sd : Int), i ≤ 1000 → ∃ (v : Int) (i' : Nat) (sd' : Int), i' ≤ i + 1 ∧ spec_l00Src_pick.f bs (i : Int) sd (g.length : Int) = some (v, (i' : Int), sd') ∧ 0 ≤ v ∧ v < (g.length : Int) := by
    intro i sd hi
    by_cases c : (g.length : Int) ≤ 1
    · refine ⟨0, i, sd, by omega, ?_, by omega, by omega⟩
      unfold spec_l00Src_pick.f
      rw [if_pos c]
    · obtain ⟨v, sd', e, a, b⟩ := pick_ok bs hb hl i (by omega) sd (g.length : Int) (by omega) (by omega)
      exact ⟨v, i + 1, sd', by omega, e, a, b⟩
  have loop : ∀ (d i : Nat) (sd : Int) (l : List Int), i + d ≤ 1000 → l.length + d ≤ 4 → PL g l → ∃ r : List Int, Ev (fun k => spec_P6Places.l0 k g l (d : Int) bs (i : Int) sd) r ∧ r.length ≤ 4 ∧ PL g r := by
    intro d
    induction d with
    | zero =>
      intro i sd l hi hll hp
      refine ⟨l, Ev_round ?_, by omega, hp⟩
      simp only [spec_P6Places.l0]
      exact Ev_neg (by omega) (Ev.now _)
    | succ d ih =>
      intro i sd l hi hll hp
      obtain ⟨v, i', s', hi', e, a, b⟩ := step i sd (by omega)
      obtain ⟨r, h1, h2, h3⟩ := ih i' s' (l ++ [v]) (by omega) (by simp; omega) (fun p hm => by
        rcases List.mem_append.1 hm with hm | hm
        · exact hp p hm
        · rw [List.mem_singleton.1 hm]; omega)
      refine ⟨r, Ev_round ?_, h2, h3⟩
      simp only [spec_P6Places.l0]
      rw [e]
      simp only [Option.bind_some]
      rw [w64 (by omega) (by omega), show ((d + 1 : Nat) : Int) - 1 = (d : Int) by omega]
      exact Ev_pos (by omega) (Ev_pos (by omega) h1)
  obtain ⟨v, s1, e1, a1, b1⟩ := pick_ok bs hb hl 0 (by omega) 0 5 (by omega) (by omega)
  obtain ⟨d, rfl⟩ := Int.eq_ofNat_of_zero_le a1
  obtain ⟨r, h1, h2, h3⟩ := loop d 1 s1 [] (by omega) (by simp; omega) (fun p hm => by simp at hm)
  refine ⟨r, ?_, h2, h3⟩
  unfold spec_P6Places.f spec_l00From.f
  simp only [Option.bind_some]
  have e1' : spec_l00Src_pick.f bs 0 0 5 = _ := e1
  rw [e1']
  simp only [Option.bind_some]
  exact h1
/-! What the program answers at a valid game. -/
theorem placeR_ok {g : List (List Int)} {l : List Int} (h : validG g = true) (hp : PL g l) : placeR g l = 0 := by
  unfold placeR
  rw [if_pos h, if_neg]
  intro hc
  obtain ⟨p, h1, h2⟩ := List.any_eq_true.1 hc
  have := hp p h1
  rw [decide_eq_true this] at h2
  simp at h2
theorem placedR_ok {g : List (List Int)} {l : List Int} (h : validG g = true) (hp : PL g l) (hl : l.length ≤ 12) : placedR g l = 0 := by
  unfold placedR
  rw [if_pos h, if_neg (by omega), if_neg]
  intro hc
  obtain ⟨p, h1, h2⟩ := List.any_eq_true.1 hc
  have := hp p h1
  rw [decide_eq_true this] at h2
  simp at h2
theorem value_ev {g : List (List Int)} (h : validG g = true) (p : Nat) (hp : p < g.length) : Ev (fun k => impl_ValueAt.f k g (p : Int)) (rd (GV g) (p : Int), 0) := by
  obtain ⟨b1, b2⟩ := valid_bounds h
  have hi := place_ev g b1 b2 [(p : Int)]
  rw [placeR_ok h (fun q hq => by rw [List.mem_singleton.1 hq]; omega)] at hi
  exact Ev.bind hi (Ev_pos rfl (Ev.bind (impl_values_ev g h) (Ev_pos (by omega) (Ev_pos (by rw [GV_len]; omega) (Ev.now _)))))
theorem sumAt_ev {g : List (List Int)} (h : validG g = true) {l : List Int} (hp : PL g l) (hl : l.length ≤ 12) : Ev (fun k => impl_SumAt.f k g l) (((xr 0 (vs g l) : Nat) : Int), 0) := by
  obtain ⟨b1, b2⟩ := valid_bounds h
  have hi := sumCode_ev g b1 b2 l
  rw [placedR_ok h hp hl] at hi
  rw [← (sum_nat h hp).1]
  exact Ev.bind hi (Ev_pos rfl (Ev.bind (impl_values_ev g h) (Ev.bind (impl_sumP_ev _ l (by omega) (fun p hm => by have := hp p hm; rw [GV_len]; omega)) (Ev.now _))))
theorem wmR_ok {g : List (List Int)} (h : validG g = true) {l : List Int} (hp : PL g l) (hl : l.length ≤ 12) : wmR g l = (wmDone g (GV g) (sumP (GV g) l) l l.length, 0) := by
  unfold wmR
  rw [if_pos (placedR_ok h hp hl)]
theorem wm_i {g : List (List Int)} (h : validG g = true) {l : List Int} (hp : PL g l) (hl : l.length ≤ 12) : Ev (fun k => impl_WinningMoves.f k g l) (wmDone g (GV g) (sumP (GV g) l) l l.length, 0) := by
  obtain ⟨b1, b2⟩ := valid_bounds h
  rw [← wmR_ok h hp hl]
  exact impl_wm_ev g b1 b2 l (by omega)
theorem wm_s {g : List (List Int)} (h : validG g = true) {l : List Int} (hp : PL g l) (hl : l.length ≤ 12) : Ev (fun k => spec_WinningMoves.f k g l) (wmDone g (GV g) (sumP (GV g) l) l l.length, 0) := by
  obtain ⟨b1, b2⟩ := valid_bounds h
  rw [← wmR_ok h hp hl]
  exact spec_wm_ev g b1 b2 l (by omega)
theorem check_ev {g : List (List Int)} (h : validG g = true) (l : List Int) (hl : l.length ≤ 1048576) (hr : ∀ x ∈ l, 0 ≤ x ∧ x ≤ 65535) : Ev (fun k => impl_CheckValues.f k g l) (decide (brokenR l g.length g 0 < 0), 0) := by
  obtain ⟨b1, b2⟩ := valid_bounds h
  exact Ev.bind (impl_valid_ev g b1 b2) (Ev_pos h (Ev.bind (impl_broken_ev g h l hl hr) (Ev.now _)))
theorem broken_ev1 {g : List (List Int)} (h : validG g = true) (l : List Int) (hl : l.length ≤ 1048576) (hr : ∀ x ∈ l, 0 ≤ x ∧ x ≤ 65535) (hb : brokenR l g.length g 0 = -1) : Ev (fun k => impl_FirstBroken.f k g l) (0, 6) := by
  obtain ⟨b1, b2⟩ := valid_bounds h
  have hi := impl_broken_ev g h l hl hr
  rw [hb] at hi
  exact Ev.bind (impl_valid_ev g b1 b2) (Ev_pos h (Ev.bind hi (Ev_pos (by decide) (Ev.now _))))
theorem broken_ev2 {g : List (List Int)} (h : validG g = true) (l : List Int) (hl : l.length ≤ 1048576) (hr : ∀ x ∈ l, 0 ≤ x ∧ x ≤ 65535) (b : Nat) (hb : brokenR l g.length g 0 = (b : Int)) : Ev (fun k => impl_FirstBroken.f k g l) ((b : Int), 0) := by
  obtain ⟨b1, b2⟩ := valid_bounds h
  have hi := impl_broken_ev g h l hl hr
  rw [hb] at hi
  exact Ev.bind (impl_valid_ev g b1 b2) (Ev_pos h (Ev.bind hi (Ev_neg (by omega) (Ev.now _))))
theorem long_ev {g : List (List Int)} (h : validG g = true) (P : Nat) (hP : P < g.length) : Ev (fun k => impl_LongestPlay.f k g (P : Int)) (lpv g P, 0) := by
  obtain ⟨b1, b2⟩ := valid_bounds h
  have hi := place_ev g b1 b2 [(P : Int)]
  rw [placeR_ok h (fun q hq => by rw [List.mem_singleton.1 hq]; omega)] at hi
  refine Ev.bind hi (Ev_pos rfl ?_)
  have e : wrap64 ((P : Int) + 1) = ((P + 1 : Nat) : Int) := by rw [w64 (by omega) (by omega)]; omega
  rw [e]
  refine Ev_pos (by omega) (Ev_pos (by omega) ?_)
  exact Ev_bind1 rfl (impl_lp_ev g h P hP)
theorem values_of_ev (g : List (List Int)) (h : validG g = true) : Ev (fun k => impl_ValuesOf.f k g) (GV g, 0) := by
  have hb := valid_bounds h
  exact Ev.bind (impl_valid_ev g hb.1 hb.2) (Ev_pos h (Ev.bind (impl_values_ev g h) (Ev.now _)))
theorem values_spec_ev (g : List (List Int)) (h : validG g = true) : Ev (fun k => spec_ValuesOf.f k g) (GV g, 0) := by
  have hb := valid_bounds h
  exact Ev.bind (spec_ok_ev g hb.1 hb.2) (Ev_pos h (Ev.bind (spec_values_ev g h) (Ev.now _)))
theorem same_ev (g : List (List Int)) (h : validG g = true) : Ev (fun k => spec_SameGame.f k g g) true := by
  have hb := valid_bounds h
  exact Ev_as (spec_same_ev g g hb.1 (fun mv hm => (hb.2 mv hm).1)) (by simp)
theorem GV_mem {g : List (List Int)} (h : validG g = true) : ∀ x ∈ GV g, 0 ≤ x ∧ x ≤ 59 := by
  intro x hx
  obtain ⟨j, hj, rfl⟩ := List.getElem_of_mem hx
  have hj2 : j < g.length := by rw [GV_len] at hj; exact hj
  have h1 := gvN_rd h j hj2
  rw [rd_nat hj] at h1
  have := gvN_small h j hj2
  omega
/-! The law, from its end. -/
section
variable {g : List (List Int)} (h : validG g = true) (I : Nat) (hI : I < g.length) {l : List Int} (hp : PL g l) (hl : l.length ≤ 4)
include h hI
theorem law_end (M : List S53) (n : Int) (hn : ¬ n < (M.length : Int)) : Ev (fun k => laws_FnPlaces.l1 k g (GV g) (I : Int) l M n) true := by
  have hg := valid_len h
  obtain ⟨r1, r2, r3⟩ := lpv_range h (I + 1) I (by omega) hI
  have hb : g[I]! = g[I] := by simp [hI]
  rw [hb] at r3
  have hs := gvN_small h I hI
  refine Ev_round ?_
  simp only [laws_FnPlaces.l1]
  refine Ev_neg hn (Ev.bind (long_ev h I hI) (Ev_pos rfl (Ev_pos (by omega) (Ev_pos (by rw [GV_len]; omega) (Ev_neg ?_ (Ev_neg (by simp only; omega) (Ev_pos (by omega) (Ev_neg ?_ (Ev.now _)))))))))
  · rw [gvN_rd h I hI, w64 (by omega) (by omega)]
    simp only
    omega
  · rw [rdL2_nat hI]
    simp only
    by_cases c : lpv g I = 0
    · have e := r3.1 c
      rw [c, e]
      decide
    · have e : g[I].length ≠ 0 := fun q => c (r3.2 (List.length_eq_zero_iff.1 q))
      have e2 : ((g[I].length : Int) == 0) = false := by simp; exact fun q => e (by rw [q]; rfl)
      have c2 : (lpv g I == 0) = false := by simp [c]
      rw [e2, c2]
      decide
include hp hl
theorem law_moves : ∀ (d n : Nat), n + d = (wmDone g (GV g) (sumP (GV g) l) l l.length).length → Ev (fun k => laws_FnPlaces.l1 k g (GV g) (I : Int) l (wmDone g (GV g) (sumP (GV g) l) l l.length) (n : Int)) true := by
  have hM := wmDone_len g h (GV g) (sumP (GV g) l) l l.length
  have hat := fun x hx => wm_at h hp x hx
  generalize wmDone g (GV g) (sumP (GV g) l) l l.length = M at hM hat
  intro d
  induction d with
  | zero =>
    intro n hn
    exact law_end h I hI M _ (by omega)
  | succ d ih =>
    intro n hn
    have hlt : n < M.length := by omega
    have nx := ih (n + 1) (by omega)
    obtain ⟨i, t, P, hi, hx, hP, htP, hPl, _, h0⟩ := hat M[n] (List.getElem_mem hlt)
    have hnext : PL g (l.set i (t : Int)) := by
      intro q hq
      rcases List.mem_or_eq_of_mem_set hq with hq | rfl
      · exact hp q hq
      · omega
    have hlen : (l.set i (t : Int)).length ≤ 12 := by rw [List.length_set]; omega
    have hvs : vs g (l.set i (t : Int)) = (vs g l).set i (gvN g t) := by unfold vs; rw [List.map_set]; rfl
    have hvi : (vs g l)[i]'(by rw [vs_len]; exact hi) = gvN g P := by simp [vs, hP]
    have hz : xr 0 (vs g (l.set i (t : Int))) = 0 := by
      rw [hvs, xr_set _ 0 i _ (by rw [vs_len]; exact hi), hvi]
      exact h0
    have w := wm_i h hnext hlen
    have s := sumAt_ev h hnext hlen
    rw [wm_none h hnext hz] at w
    rw [hz] at s
    refine Ev_round ?_
    simp only [laws_FnPlaces.l1, Option.bind_some, List.nil_append]
    rw [rdP2 hlt, hx]
    refine Ev_pos (by omega) (Ev_pos (by simp; omega) (Ev_pos (by omega) (Ev_neg (by simp only; omega) (Ev_round ?_))))
    simp only [laws_FnPlaces.j6, Option.bind_some]
    rw [rdP2 hlt, hx]
    refine Ev_neg (by simp only [decide_eq_true_eq]; omega) (Ev_pos (by omega) (Ev_pos (by omega) (Ev_pos (by simp only; omega) (Ev_pos (by simp only; omega) ?_))))
    simp only [Int.toNat_natCast]
    refine Ev.bind w (Ev.bind s (Ev_pos (by trivial) (Ev_pos (by trivial) (Ev_pos (by trivial) (Ev_pos (by trivial) ?_)))))
    rw [w64 (by omega) (by omega)]
    exact nx
theorem law_places : ∀ (d n : Nat), n + d = l.length → Ev (fun k => laws_FnPlaces.l0 k g (GV g) (I : Int) l ((xr 0 (vs g l) : Nat) : Int) 0 ((xr 0 (vs g (l.take n)) : Nat) : Int) (n : Int)) true := by
  intro d
  induction d with
  | zero =>
    intro n hn
    rw [List.take_of_length_le (by omega)]
    have hM := wmDone_len g h (GV g) (sumP (GV g) l) l l.length
    have hend := law_moves h I hI hp hl (wmDone g (GV g) (sumP (GV g) l) l l.length).length 0 (by omega)
    refine Ev_round ?_
    simp only [laws_FnPlaces.l0]
    refine Ev_neg (by omega) (Ev.bind (wm_i h hp (by omega)) (Ev.bind (wm_s h hp (by omega)) (Ev_pos (by trivial) (Ev_pos (by trivial) (Ev_pos (by trivial) (Ev_pos (by trivial) (Ev.bind (samePairs_ev _ (by simp only; omega)) (Ev_pos (by trivial) (Ev_round ?_)))))))))
    simp only [laws_FnPlaces.j4]
    refine Ev_neg ?_ hend
    by_cases c : xr 0 (vs g l) = 0
    · rw [wm_none h hp c, c]
      decide
    · have h1 := wm_some h hp c
      have h2 : 0 < (wmDone g (GV g) (sumP (GV g) l) l l.length).length := List.length_pos_iff.2 h1
      have e1 : decide (((wmDone g (GV g) (sumP (GV g) l) l l.length).length : Int) > 0) = true := decide_eq_true (by omega)
      have e2 : (((xr 0 (vs g l) : Nat) : Int) != 0) = true := by simp; omega
      rw [e1, e2]
      decide
  | succ d ih =>
    intro n hn
    have hlt : n < l.length := by omega
    have nx := ih (n + 1) (by omega)
    have h1 := hp _ (List.getElem_mem hlt)
    obtain ⟨P, hP⟩ := Int.eq_ofNat_of_zero_le h1.1
    have hPl : P < g.length := by omega
    have hs := gvN_small h P hPl
    have hlow : xr 0 (vs g (l.take n)) < 64 := (sum_nat h (l := l.take n) (fun q hq => hp q (List.mem_of_mem_take hq))).2
    have e : xr 0 (vs g (l.take (n + 1))) = xr 0 (vs g (l.take n)) ^^^ gvN g P := by
      rw [List.take_succ_eq_append_getElem hlt, hP]
      unfold vs xr
      rw [List.map_append, List.foldl_append]
      rfl
    rw [e] at nx
    have hx : X ((xr 0 (vs g (l.take n)) : Nat) : Int) (rd (GV g) (P : Int)) = ((xr 0 (vs g (l.take n)) ^^^ gvN g P : Nat) : Int) := by
      rw [gvN_rd h P hPl, X_nat ⟨by omega, by omega⟩ ⟨by omega, by omega⟩]
      simp
    refine Ev_round ?_
    simp only [laws_FnPlaces.l0]
    rw [rd_nat hlt, hP, w64 (by omega) (by omega)]
    refine Ev_pos (by omega) (Ev_pos (by omega) (Ev.bind (value_ev h P hPl) (Ev_pos rfl (Ev_pos (by omega) (Ev_pos (by rw [GV_len]; omega) (Ev_pos rfl ?_))))))
    refine Ev_bind1 (show impl_PlusNim.f _ _ = some (X ((xr 0 (vs g (l.take n)) : Nat) : Int) (rd (GV g) (P : Int))) from rfl) ?_
    rw [hx]
    exact nx
end
set_option maxHeartbeats 1000000 in
theorem FnPlaces : laws_FnPlaces.Pure := by
  intro l0 l1 _ _ hw0 _ _ hw1
  refine Ev.rounds (r := true) ?_
  by_cases b0 : (l0.length : Int) > 4096
  · refine Ev_bind1 (a := true) (by unfold laws_f6big.f; rw [decide_eq_true b0]) (Ev_pos rfl (Ev_round ?_))
    simp only [laws_FnPlaces.j0]
    exact Ev_pos (by simp) (Ev.now _)
  refine Ev_bind1 (a := false) (by unfold laws_f6big.f; rw [decide_eq_false b0]) (Ev_neg (by simp) ?_)
  by_cases b1 : (l1.length : Int) > 4096
  · refine Ev_bind1 (a := true) (by unfold laws_f6big.f; rw [decide_eq_true b1]) (Ev_round ?_)
    simp only [laws_FnPlaces.j0]
    exact Ev_pos (by simp) (Ev.now _)
  refine Ev_bind1 (a := false) (by unfold laws_f6big.f; rw [decide_eq_false b1]) (Ev_round ?_)
  have hu0 : ∀ x ∈ l0, 0 ≤ x ∧ x ≤ 255 := fun x hx => wf_u8 (hw0 x hx)
  have hu1 : ∀ x ∈ l1, 0 ≤ x ∧ x ≤ 255 := fun x hx => wf_u8 (hw1 x hx)
  obtain ⟨g, hg, hv, h12⟩ := game_ok l0 hu0 (by omega)
  obtain ⟨l, hpl, hl4, hp⟩ := places_ok l1 hu1 (by omega) hv
  have hg0 := valid_len hv
  have hgl := GV_len g
  have hgm := GV_mem hv
  have hb0 := broken_none hv g.length 0 (by omega)
  rw [List.drop_zero] at hb0
  have hch := check_ev hv (GV g) (by omega) (fun x hx => by have := hgm x hx; omega)
  have hfb := broken_ev1 hv (GV g) (by omega) (fun x hx => by have := hgm x hx; omega) hb0
  rw [hb0] at hch
  obtain ⟨vb1, vb2⟩ := valid_bounds hv
  have hok := impl_valid_ev g vb1 vb2
  rw [hv] at hok
  simp only [laws_FnPlaces.j0]
  refine Ev_neg (by simp) (Ev.bind hg (Ev.bind (values_of_ev g hv) (Ev.bind (values_spec_ev g hv) (Ev.bind hch (Ev.bind hfb (Ev.bind (text_ev hv) (Ev.bind (back_ev hv) (Ev_pos rfl (Ev_pos rfl (Ev.bind (sameNims_ev _ (by simp only; omega)) (Ev_pos rfl (Ev_pos (by simp only; omega) (Ev_pos rfl (Ev_pos (by decide) (Ev_pos rfl (Ev_pos rfl (Ev.bind (same_ev g hv) (Ev_pos rfl (Ev_bind1 (a := true) (by unfold impl_SameGame.f; simp) (Ev_pos rfl (Ev.bind hok (Ev_round ?_))))))))))))))))))))))
  obtain ⟨vi, hvi, i0, i1⟩ := pick_any l1 hu1 (by omega) ((GV g).length : Int) (by omega) (by omega)
  obtain ⟨I, rfl⟩ := Int.eq_ofNat_of_zero_le i0
  have hI : I < g.length := by omega
  obtain ⟨y, hy, y0, y1⟩ := pick_any l0 hu0 (by omega) 3 (by omega) (by omega)
  have hs := gvN_small hv I hI
  have hrd := gvN_rd hv I hI
  have hwrong : (IntKind.u16.wrap ((rd (GV g) (I : Int)) + (IntKind.u16.wrap (1 + (IntKind.u16.wrap y))))) = rd (GV g) (I : Int) + (1 + y) := by
    rw [hrd]
    simp only [IntKind.wrap_u16]
    omega
  have hne : rd (GV g) (I : Int) + (1 + y) ≠ rd (GV g) (I : Int) := by omega
  have hbr := broken_at hv I hI _ hne I 0 (by omega)
  rw [List.drop_zero] at hbr
  have hwm : ∀ x ∈ (GV g).set I (rd (GV g) (I : Int) + (1 + y)), 0 ≤ x ∧ x ≤ 65535 := by
    intro x hx
    rcases List.mem_or_eq_of_mem_set hx with hx | rfl
    · have := hgm x hx
      omega
    · rw [hrd]
      omega
  have hwl : ((GV g).set I (rd (GV g) (I : Int) + (1 + y))).length ≤ 1048576 := by rw [List.length_set]; omega
  have hc2 := check_ev hv _ hwl hwm
  have hf2 := broken_ev2 hv _ hwl hwm I hbr
  rw [hbr] at hc2
  simp only [laws_FnPlaces.j1, Option.bind_some, List.nil_append]
  refine Ev_neg (by simp) (Ev_pos (by simp; omega) (Ev_bind1 hvi (Ev_pos (by omega) (Ev_pos (by omega) (Ev_bind1 hy ?_)))))
  rw [hwrong, Int.toNat_natCast]
  refine Ev.bind hc2 (Ev.bind hf2 (Ev_pos rfl (Ev_neg ?_ (Ev_pos rfl (Ev_round ?_)))))
  · simp only [decide_eq_true_eq]
    omega
  simp only [laws_FnPlaces.j2]
  refine Ev_neg (by simp) (Ev.bind hpl (Ev.bind (sumAt_ev hv hp (by omega)) ?_))
  exact law_places hv I hI hp hl4 l.length 0 (by omega)

end Go.Proofs.YtojjakjpdkpmiaaGreatDoor.Pure
