/- FnExactGameText: the printed pure statement holds: at every input the law's function answers true; no condition but the bounds of its kinds. -/
import Derived.Test.YtojjakjpdkpmiaaDoorQFnExactGameTextx4
import Derived.Test.YtojjakjpdkpmiaaDoorLib
import Derived.Test.YtojjakjpdkpmiaaDoorLib3
set_option linter.unusedVariables false
set_option linter.unusedSimpArgs false
namespace Go.Proofs.YtojjakjpdkpmiaaDoor.Pure
open Go.RowKit Go.Proofs.YtojjakjpdkpmiaaDoor.QFnExactGameText Go.Proofs.YtojjakjpdkpmiaaDoorW.PrintWords Go.Proofs.YtojjakjpdkpmiaaDoorW.PrintLast Go.Proofs.YtojjakjpdkpmiaaDoor.Lib

theorem rdL2_nat {g : List (List Int)} {n : Nat} (h : n < g.length) : rd_L1 g (n : Int) = g[n] := by simp [rd_L1, List.getD_eq_getElem?_getD, List.getElem?_eq_getElem h]

theorem szInt8S_eq (xs : List Int) (a : Int) (hx : xs.length ≤ maxLen) (ha : 0 ≤ a ∧ a ≤ 1048576) : ∃ r, laws_szInt8S.f xs a = some r ∧ r ≤ 1048576 ∧ (0 ≤ r → xs.length ≤ 1048576) := by
  unfold maxLen at hx
  unfold laws_szInt8S.f
  rw [w64 (by omega) (by omega)]
  by_cases c : a - (xs.length : Int) < 0
  · exact ⟨-1, if_pos c, by omega, by omega⟩
  · exact ⟨_, if_neg c, by omega, by omega⟩

theorem szGame_ev (g : List (List Int)) (hg : g.length ≤ maxLen) (hr : ∀ mv ∈ g, mv.length ≤ maxLen) (a : Int) (ha : 0 ≤ a ∧ a ≤ 1048576) :
    ∃ r, Ev (fun k => laws_szGame.f k g a) r ∧ r ≤ 1048576 ∧ (0 ≤ r → g.length ≤ 1048576 ∧ ∀ mv ∈ g, mv.length ≤ 1048576) := by
  unfold maxLen at hg
  unfold laws_szGame.f
  rw [w64 (by omega) (by omega)]
  by_cases c : a - (g.length : Int) < 0
  · exact ⟨-1, Ev_pos c (Ev.now _), by omega, by omega⟩
  · have main : ∀ (d n : Nat) (b : Int), n + d = g.length → 0 ≤ b → b ≤ 1048576 → ∃ r, Ev (fun k => laws_szGame.l0 k g b (n : Int)) r ∧ r ≤ 1048576 ∧ (0 ≤ r → ∀ mv ∈ g.drop n, mv.length ≤ 1048576) := by
      intro d
      induction d with
      | zero =>
        intro n b h h0 h1
        obtain rfl : n = g.length := by omega
        refine ⟨b, Ev_round ?_, h1, by simp⟩
        simp only [laws_szGame.l0]
        exact Ev_neg (by omega) (Ev.now _)
      | succ d ih =>
        intro n b h h0 h1
        have hn : n < g.length := by omega
        obtain ⟨r, hr1, hr2, hr3⟩ := szInt8S_eq g[n] b (hr _ (List.getElem_mem hn)) ⟨h0, h1⟩
        by_cases cr : r < 0
        · refine ⟨-1, Ev_round ?_, by omega, by omega⟩
          simp only [laws_szGame.l0]
          refine Ev_pos (by omega) (Ev_pos (by omega) ?_)
          rw [rdL2_nat hn]
          exact Ev_bind1 hr1 (Ev_pos cr (Ev.now _))
        · obtain ⟨q, hq1, hq2, hq3⟩ := ih (n + 1) r (by omega) (by omega) hr2
          refine ⟨q, Ev_round ?_, hq2, fun hq => ?_⟩
          · simp only [laws_szGame.l0]
            refine Ev_pos (by omega) (Ev_pos (by omega) ?_)
            rw [rdL2_nat hn, w64 (by omega) (by omega)]
            exact Ev_bind1 hr1 (Ev_neg cr hq1)
          · rw [List.drop_eq_getElem_cons hn]
            intro mv hmv
            rcases List.mem_cons.1 hmv with rfl | hmv
            · exact hr3 (by omega)
            · exact hq3 hq mv hmv
    obtain ⟨r, h1, h2, h3⟩ := main g.length 0 (a - g.length) (by omega) (by omega) (by omega)
    exact ⟨r, Ev_neg c h1, h2, fun h => ⟨by omega, by simpa using h3 h⟩⟩

theorem spec_ok_ev (g : List (List Int)) (hl : g.length ≤ 1048576) (hr : ∀ mv ∈ g, mv.length ≤ 1048576 ∧ ∀ x ∈ mv, -128 ≤ x ∧ x ≤ 127) : Ev (fun k => spec_l03Ok.f k g) (validG g) := by
  have inner : ∀ (n : Nat) (hn : n < g.length) (r : Bool), Ev (fun k => spec_l03Ok.l0 k g ((n + 1 : Nat) : Int)) r →
      ∀ (d j : Nat) (p : Int), j + d = g[n].length → -1 ≤ p → p ≤ 127 → Ev (fun k => spec_l03Ok.l1 k g (n : Int) p (j : Int)) (okFrom n p (g[n].drop j) && r) := by
    intro n hn r hnext d
    have hmv := hr _ (List.getElem_mem hn)
    induction d with
    | zero =>
      intro j p h hp hp1
      obtain rfl : j = g[n].length := by omega
      refine Ev_round ?_
      simp only [spec_l03Ok.l1]
      rw [rdL2_nat hn]
      refine Ev_pos (by omega) (Ev_pos (by omega) (Ev_neg (by omega) ?_))
      rw [w64 (by omega) (by omega), List.drop_length]
      exact Ev_as hnext (by simp [okFrom])
    | succ d ih =>
      intro j p h hp hp1
      have hj : j < g[n].length := by omega
      have hx := hmv.2 _ (List.getElem_mem hj)
      refine Ev_round ?_
      simp only [spec_l03Ok.l1]
      rw [rdL2_nat hn]
      refine Ev_pos (by omega) (Ev_pos (by omega) (Ev_pos (by omega) (Ev_pos (by omega) ?_)))
      have e0 : wrap64 ((j : Int) + 1) = ((j + 1 : Nat) : Int) := by rw [w64 (by omega) (by omega)]; omega
      rw [List.drop_eq_getElem_cons hj, rd_nat hj, e0, w64 (x := g[n][j]) (by omega) (by omega), w64 (x := (n : Int) - 1) (by omega) (by omega), w64 (x := p + 1) (by omega) (by omega)]
      unfold spec_l00In.f
      by_cases c : p < g[n][j] ∧ 0 ≤ g[n][j] ∧ g[n][j] ≤ (n : Int) - 1
      · refine Ev_bind1 (if_pos (by omega)) (Ev_pos (by simp; omega) (Ev_as (ih (j + 1) _ (by omega) (by omega) (by omega)) ?_))
        simp [okFrom, c]
      · by_cases c0 : g[n][j] ≥ p + 1
        · refine Ev_bind1 (if_pos c0) (Ev_neg (by simp; omega) (Ev_as (Ev.now _) ?_))
          simp [okFrom, c]
        · refine Ev_bind1 (if_neg c0) (Ev_neg (by simp) (Ev_as (Ev.now _) ?_))
          simp [okFrom, c]
  have outer : ∀ (d n : Nat), n + d = g.length → Ev (fun k => spec_l03Ok.l0 k g (n : Int)) (okRows n (g.drop n) && decide (1 ≤ g.length ∧ g.length ≤ 60)) := by
    intro d
    induction d with
    | zero =>
      intro n h
      obtain rfl : n = g.length := by omega
      refine Ev_round ?_
      simp only [spec_l03Ok.l0]
      refine Ev_neg (by omega) ?_
      unfold spec_l00In.f
      rw [List.drop_length]
      by_cases c0 : (g.length : Int) ≥ 1
      · refine Ev_bind1 (if_pos c0) (Ev_as (Ev.now _) ?_)
        simp only [okRows, Bool.true_and]
        apply decide_eq_decide.2
        omega
      · refine Ev_bind1 (if_neg c0) (Ev_as (Ev.now _) ?_)
        simp [okRows]
        omega
    | succ d ih =>
      intro n h
      have hn : n < g.length := by omega
      refine Ev_round ?_
      simp only [spec_l03Ok.l0]
      refine Ev_pos (by omega) ?_
      rw [List.drop_eq_getElem_cons hn]
      refine Ev_as (inner n hn _ (ih (n + 1) (by omega)) g[n].length 0 (-1) (by omega) (by omega) (by omega)) ?_
      simp [okRows, Bool.and_assoc]
  exact Ev_as (outer g.length 0 (by omega)) (by simp [validG])

def decS (n : Nat) : ByteArray := ⟨(Go.Lib.decDigits n).toArray⟩
theorem nDigits_le (u : Nat) : Go.Lib.nDigits u ≤ u + 1 := by
  induction u using Nat.strongRecOn with
  | ind u ih =>
    by_cases h : u < 10
    · rw [Go.Lib.nDigits_small h]; omega
    · rw [Go.Lib.nDigits_big h]
      have := ih (u / 10) (by omega)
      omega
theorem decS_size (n : Nat) : (decS n).size = Go.Lib.nDigits n := by
  show (Go.Lib.decDigits n).toArray.size = _
  rw [List.size_toArray, Go.Lib.decDigits_length]
theorem digit_one (n : Nat) : strOfNums ([(wrap64 (48 + (Int.tmod (n : Int) 10))) % 256] : List Int) = ⟨#[UInt8.ofNat (48 + n % 10)]⟩ := by
  have e : (wrap64 (48 + (Int.tmod (n : Int) 10))) % 256 = ((48 + n % 10 : Nat) : Int) := by
    rw [Int.tmod_eq_emod_of_nonneg (by omega), w64 (by omega) (by omega)]
    omega
  rw [e]
  rfl
theorem decS_big {n : Nat} (h : ¬ n < 10) : decS n = decS (n / 10) ++ (⟨#[UInt8.ofNat (48 + n % 10)]⟩ : ByteArray) := by
  apply ByteArray.ext
  show (Go.Lib.decDigits n).toArray = _
  rw [Go.Lib.decDigits, dif_neg h]
  simp [decS, ByteArray.data_append]
theorem dec_ev : ∀ (n : Nat), n ≤ 9223372036854775807 → Ev (fun k => spec_Decimal.f k (n : Int)) (decS n) := by
  intro n
  induction n using Nat.strongRecOn with
  | ind n ih =>
    intro hn
    refine Ev_round ?_
    simp only [spec_Decimal.f]
    by_cases h : n < 10
    · refine Ev_pos (by omega) (Ev_as (Ev.now _) ?_)
      rw [digit_one]
      unfold decS
      rw [Go.Lib.decDigits_one h, show n % 10 = n by omega]
    · refine Ev_neg (by omega) ?_
      rw [Int.tdiv_eq_ediv_of_nonneg (by omega), w64 (by omega) (by omega), show (n : Int) / 10 = ((n / 10 : Nat) : Int) by omega]
      refine Ev.bind (ih (n / 10) (by omega) (by omega)) ?_
      simp only [Option.bind_some]
      rw [digit_one]
      have h1 := decS_size (n / 10)
      have h2 := nDigits_le (n / 10)
      have h3 : (⟨#[UInt8.ofNat (48 + n % 10)]⟩ : ByteArray).size = 1 := rfl
      refine Ev_pos (by rw [h1, h3]; omega) ?_
      rw [← decS_big h]
      exact Ev.now _

theorem toInt8S_ev (xs : List Int) (hn : xs.length ≤ 1048576) : Ev (fun k => laws_toInt8S.f k xs) xs :=
  copy_any (L := laws_toInt8S.l0) 281474976710656 (fun _ _ _ _ => rfl) xs (by omega) (by omega)

theorem toGame_ev (g : List (List Int)) (hg : g.length ≤ 1048576) (hr : ∀ mv ∈ g, mv.length ≤ 1048576) : Ev (fun k => laws_toGame.f k g) g := by
  have main : ∀ (d n : Nat) (ys : List (List Int)), n + d = g.length → ys.length = g.length → ys.take n = g.take n → Ev (fun k => laws_toGame.l0 k g ys (n : Int)) g := by
    intro d
    induction d with
    | zero =>
      intro n ys h1 h2 h3
      refine Ev_round ?_
      simp only [laws_toGame.l0]
      refine Ev_neg (by omega) (Ev_as (Ev.now _) ?_)
      rw [List.take_of_length_le (by omega), List.take_of_length_le (by omega)] at h3
      exact h3
    | succ d ih =>
      intro n ys h1 h2 h3
      have hn : n < g.length := by omega
      refine Ev_round ?_
      simp only [laws_toGame.l0]
      refine Ev_pos (by omega) (Ev_pos (by omega) ?_)
      rw [rdL2_nat hn]
      refine Ev.bind (toInt8S_ev _ (hr _ (List.getElem_mem hn))) (Ev_pos (by omega) ?_)
      rw [w64 (by omega) (by omega), Int.toNat_natCast]
      refine ih (n + 1) (ys.set n g[n]) (by omega) (by simpa using h2) ?_
      rw [List.take_succ_eq_append_getElem (by simp; omega), List.take_succ_eq_append_getElem hn, List.take_set_of_le (by omega), h3]
      simp
  refine Ev_pos (by omega) (Ev_pos (by omega) (main g.length 0 _ (by omega) (by simp) (by simp)))

theorem dec_nat (n : Nat) (h : n ≤ 9223372036854775807) : impl_dec.f (n : Int) = some (decS n) := by
  unfold impl_dec.f strconv_FormatInt_94.f
  rw [if_pos rfl, if_pos (by omega)]
  simp only [Option.bind_some]
  refine congrArg some ?_
  unfold decS Go.Lib.itoa
  rw [if_neg (by omega), Int.toNat_natCast]

theorem impl_valid_ev (g : List (List Int)) (hl : g.length ≤ 1048576) (hr : ∀ mv ∈ g, mv.length ≤ 1048576 ∧ ∀ x ∈ mv, -128 ≤ x ∧ x ≤ 127) : Ev (fun k => impl_ValidGame.f k g) (validG g) := by
  -- the moves of one place, from one of them on
  have inner : ∀ (n : Nat) (hn : n < g.length) (r : Bool), Ev (fun k => impl_ValidGame.l0 k g g g.length ((n + 1 : Nat) : Int)) r →
      ∀ (d j : Nat) (p : Int), j + d = g[n].length → (j = 0 → p = -1) → (∀ h : 0 < j, ∀ h' : j - 1 < g[n].length, p = g[n][j - 1]) → -1 ≤ p →
        Ev (fun k => impl_ValidGame.l1 k g (n : Int) g[n] g g.length (n : Int) g[n] g[n].length (j : Int)) (okFrom n p (g[n].drop j) && r) := by
    intro n hn r hnext d
    have hmv := hr _ (List.getElem_mem hn)
    induction d with
    | zero =>
      intro j p h _ _ _
      obtain rfl : j = g[n].length := by omega
      refine Ev_round ?_
      simp only [impl_ValidGame.l1]
      refine Ev_neg (by omega) ?_
      rw [w64 (by omega) (by omega), List.drop_length]
      exact Ev_as hnext (by simp [okFrom])
    | succ d ih =>
      intro j p h h0 h1 hp
      have hj : j < g[n].length := by omega
      have hx := hmv.2 _ (List.getElem_mem hj)
      refine Ev_round ?_
      simp only [impl_ValidGame.l1]
      refine Ev_pos (by omega) (Ev_pos (by omega) (Ev_pos (by omega) ?_))
      rw [List.drop_eq_getElem_cons hj, rd_nat hj, w64 (by omega) (by omega), w64 (x := (n : Int) - 1) (by omega) (by omega)]
      unfold impl_within.f
      by_cases c0 : 0 ≤ g[n][j]
      · by_cases c1 : g[n][j] ≤ (n : Int) - 1
        · refine Ev_bind1 (if_pos c0) (Ev_pos (by simpa using c1) ?_)
          have e0 : wrap64 ((j : Int) + 1) = ((j + 1 : Nat) : Int) := by rw [w64 (by omega) (by omega)]; omega
          rw [e0]
          by_cases cj : (j : Int) > 0
          · have e1 : wrap64 ((j : Int) - 1) = ((j - 1 : Nat) : Int) := by rw [w64 (by omega) (by omega)]; omega
            rw [e1]
            refine Ev_pos cj (Ev_pos (by omega) (Ev_pos (by omega) ?_))
            rw [rd_nat (show j - 1 < g[n].length by omega)]
            have hpp := h1 (by omega) (by omega)
            by_cases c2 : g[n][j] ≤ g[n][j - 1]'(by omega)
            · refine Ev_pos c2 (Ev_as (Ev.now _) ?_)
              have : ¬ (p < g[n][j] ∧ 0 ≤ g[n][j] ∧ g[n][j] ≤ (n : Int) - 1) := by omega
              simp [okFrom, this]
            · refine Ev_neg c2 (Ev_as (ih (j + 1) g[n][j] (by omega) (by omega) (fun _ _ => by simp) (by omega)) ?_)
              have : p < g[n][j] ∧ 0 ≤ g[n][j] ∧ g[n][j] ≤ (n : Int) - 1 := by omega
              simp [okFrom, this]
          · refine Ev_neg cj (Ev_as (ih (j + 1) g[n][j] (by omega) (by omega) (fun _ _ => by simp) (by omega)) ?_)
            have hp0 := h0 (by omega)
            have : p < g[n][j] ∧ 0 ≤ g[n][j] ∧ g[n][j] ≤ (n : Int) - 1 := by omega
            simp [okFrom, this]
        · refine Ev_bind1 (if_pos c0) (Ev_neg (by simpa using c1) (Ev_as (Ev.now _) ?_))
          have : ¬ (p < g[n][j] ∧ 0 ≤ g[n][j] ∧ g[n][j] ≤ (n : Int) - 1) := by omega
          simp [okFrom, this]
      · refine Ev_bind1 (if_neg c0) (Ev_neg (by simp) (Ev_as (Ev.now _) ?_))
        have : ¬ (p < g[n][j] ∧ 0 ≤ g[n][j] ∧ g[n][j] ≤ (n : Int) - 1) := by omega
        simp [okFrom, this]
  have outer : ∀ (d n : Nat), n + d = g.length → Ev (fun k => impl_ValidGame.l0 k g g g.length (n : Int)) (okRows n (g.drop n) && decide (1 ≤ g.length ∧ g.length ≤ 60)) := by
    intro d
    induction d with
    | zero =>
      intro n h
      obtain rfl : n = g.length := by omega
      refine Ev_round ?_
      simp only [impl_ValidGame.l0]
      refine Ev_neg (by omega) ?_
      unfold impl_within.f
      rw [List.drop_length]
      by_cases c0 : 1 ≤ (g.length : Int)
      · refine Ev_bind1 (if_pos c0) (Ev_as (Ev.now _) ?_)
        simp only [okRows, Bool.true_and]
        apply decide_eq_decide.2
        omega
      · refine Ev_bind1 (if_neg c0) (Ev_as (Ev.now _) ?_)
        simp [okRows]
        omega
    | succ d ih =>
      intro n h
      have hn : n < g.length := by omega
      refine Ev_round ?_
      simp only [impl_ValidGame.l0]
      refine Ev_pos (by omega) (Ev_pos (by omega) (Ev_pos (by omega) ?_))
      rw [rdL2_nat hn, List.drop_eq_getElem_cons hn]
      refine Ev_as (inner n hn _ (ih (n + 1) (by omega)) g[n].length 0 (-1) (by omega) (fun _ => rfl) (fun h _ => by omega) (by omega)) ?_
      simp [okRows, Bool.and_assoc]
  exact Ev_as (outer g.length 0 (by omega)) (by simp [validG])

/-- The words of a joined list, one by one. -/
theorem joinS_snoc (l : List ByteArray) (s x : ByteArray) (h : l ≠ []) : joinS (l ++ [x]) s = joinS l s ++ s ++ x := by
  apply ByteArray.ext
  simp only [joinS, ByteArray.data_append]
  cases l with
  | nil => exact absurd rfl h
  | cons a t =>
    rw [List.cons_append, List.map_cons, List.map_cons, Go.Lib.join_cons, Go.Lib.join_cons, List.map_append]
    simp [Go.Lib.joinTail]
theorem joinS_nil (s : ByteArray) : joinS [] s = ⟨#[]⟩ := rfl
theorem joinS_one (x s : ByteArray) : joinS [x] s = x := by
  apply ByteArray.ext
  simp [joinS, Go.Lib.join_one]
theorem joinTail_le (s : List UInt8) (B : Nat) : ∀ (r : List (List UInt8)), (∀ x ∈ r, x.length ≤ B) → (Go.Lib.joinTail s r).length ≤ r.length * (s.length + B) := by
  intro r
  induction r with
  | nil => intro _; simp [Go.Lib.joinTail]
  | cons y t ih =>
    intro h
    have h1 := ih (fun x hx => h x (List.mem_cons_of_mem _ hx))
    have h2 := h y (List.mem_cons_self ..)
    have e : Go.Lib.joinTail s (y :: t) = (s ++ y) ++ Go.Lib.joinTail s t := by simp [Go.Lib.joinTail]
    rw [e, List.length_append, List.length_append, List.length_cons, Nat.succ_mul]
    omega
theorem joinS_le (l : List ByteArray) (s : ByteArray) (B : Nat) (h : ∀ x ∈ l, x.size ≤ B) : (joinS l s).size ≤ l.length * (s.size + B) := by
  rw [joinS_size]
  cases l with
  | nil => simp [Go.Lib.join_nil]
  | cons a t =>
    rw [List.map_cons, Go.Lib.join_cons, List.length_append]
    have h1 := joinTail_le s.data.toList B (t.map (·.data.toList)) (by
      intro x hx
      obtain ⟨y, hy, rfl⟩ := List.mem_map.1 hx
      have := h y (List.mem_cons_of_mem _ hy)
      show y.data.toList.length ≤ B
      rw [Array.length_toList]
      exact this)
    have h2 := h a (List.mem_cons_self ..)
    rw [List.length_map] at h1
    have h3 : a.data.toList.length = a.size := Array.length_toList
    have h4 : s.data.toList.length = s.size := Array.length_toList
    rw [h4] at h1
    rw [h3, List.length_cons, Nat.succ_mul]
    omega

theorem eqInt8S_ev (xs ys : List Int) (hn : xs.length ≤ 140737488355328) : Ev (fun k => laws_eqInt8S.f k xs ys) (decide (xs = ys)) :=
  eq_all (L := laws_eqInt8S.l0) (fun _ _ _ _ => rfl) xs ys (by omega)

theorem eqGame_ev (g h : List (List Int)) (hg : g.length ≤ 1048576) (hr : ∀ mv ∈ g, mv.length ≤ 1048576) : Ev (fun k => laws_eqGame.f k g h) (decide (g = h)) := by
  by_cases hl : g.length = h.length
  · have main : ∀ (d n : Nat), n + d = g.length → g.take n = h.take n → Ev (fun k => laws_eqGame.l0 k g h (n : Int)) (decide (g = h)) := by
      intro d
      induction d with
      | zero =>
        intro n h1 h3
        refine Ev_round ?_
        simp only [laws_eqGame.l0]
        refine Ev_neg (by omega) (Ev_as (Ev.now _) ?_)
        rw [List.take_of_length_le (by omega), List.take_of_length_le (by omega)] at h3
        simp [h3]
      | succ d ih =>
        intro n h1 h3
        have hn : n < g.length := by omega
        have hm : n < h.length := by omega
        refine Ev_round ?_
        simp only [laws_eqGame.l0]
        refine Ev_pos (by omega) (Ev_pos (by omega) (Ev_pos (by omega) ?_))
        rw [rdL2_nat hn, rdL2_nat hm, w64 (by omega) (by omega)]
        refine Ev.bind (eqInt8S_ev _ _ (by have := hr _ (List.getElem_mem hn); omega)) ?_
        by_cases e : g[n] = h[n]
        · refine Ev_pos (by simp [e]) (ih (n + 1) (by omega) ?_)
          rw [List.take_succ_eq_append_getElem hn, List.take_succ_eq_append_getElem hm, h3, e]
        · refine Ev_neg (by simp [e]) (Ev_as (Ev.now _) ?_)
          have : g ≠ h := fun x => e (by subst x; rfl)
          simp [this]
    exact Ev_pos (by omega) (main g.length 0 (by omega) (by simp))
  · refine Ev_neg (by omega) (Ev_as (Ev.now _) ?_)
    have : g ≠ h := fun e => hl (by rw [e])
    simp [this]

theorem ba_assoc (a b c : ByteArray) : a ++ b ++ c = a ++ (b ++ c) := ByteArray.ext (by simp [ByteArray.data_append, Array.append_assoc])
theorem ba_nil (a : ByteArray) : a ++ (⟨#[]⟩ : ByteArray) = a := ByteArray.ext (by simp [ByteArray.data_append])
theorem nil_ba (a : ByteArray) : (⟨#[]⟩ : ByteArray) ++ a = a := ByteArray.ext (by simp [ByteArray.data_append])
def dn (x : Int) : ByteArray := decS x.toNat
def com : ByteArray := ⟨#[44]⟩
def spg : ByteArray := ⟨#[32]⟩
def rowS (row : List Int) : ByteArray := if row.length = 0 then ⟨#[45]⟩ else joinS (row.map dn) com
theorem dn_size {x : Int} (h : 0 ≤ x ∧ x ≤ 60) : (dn x).size ≤ 61 := by
  have h1 := decS_size x.toNat
  have h2 := nDigits_le x.toNat
  unfold dn
  omega
theorem dn_spec {x : Int} (h : 0 ≤ x ∧ x ≤ 60) : Ev (fun k => spec_Decimal.f k x) (dn x) := by
  have := dec_ev x.toNat (by omega)
  rw [show ((x.toNat : Nat) : Int) = x by omega] at this
  exact this
theorem dn_impl {x : Int} (h : 0 ≤ x ∧ x ≤ 60) : impl_dec.f x = some (dn x) := by
  have := dec_nat x.toNat (by omega)
  rw [show ((x.toNat : Nat) : Int) = x by omega] at this
  exact this
theorem part_le (row : List Int) (h : ∀ x ∈ row, 0 ≤ x ∧ x ≤ 60) (hl : row.length ≤ 60) (n : Nat) : (joinS ((row.take n).map dn) com).size ≤ 3720 := by
  have h1 := joinS_le ((row.take n).map dn) com 61 (by
    intro x hx
    obtain ⟨y, hy, rfl⟩ := List.mem_map.1 hx
    exact dn_size (h y (List.mem_of_mem_take hy)))
  have h2 : com.size = 1 := rfl
  rw [List.length_map, List.length_take, h2] at h1
  omega
theorem rowS_le (row : List Int) (h : ∀ x ∈ row, 0 ≤ x ∧ x ≤ 60) (hl : row.length ≤ 60) : (rowS row).size ≤ 3720 := by
  unfold rowS
  by_cases c : row.length = 0
  · rw [if_pos c]
    show 1 ≤ 3720
    omega
  · rw [if_neg c]
    have := part_le row h hl row.length
    rw [List.take_of_length_le (Nat.le_refl _)] at this
    exact this
theorem rows_le (g : List (List Int)) (h : ∀ row ∈ g, row.length ≤ 60 ∧ ∀ x ∈ row, 0 ≤ x ∧ x ≤ 60) (hl : g.length ≤ 60) (n : Nat) : (joinS ((g.take n).map rowS) spg).size ≤ 223260 := by
  have h1 := joinS_le ((g.take n).map rowS) spg 3720 (by
    intro x hx
    obtain ⟨y, hy, rfl⟩ := List.mem_map.1 hx
    have := h y (List.mem_of_mem_take hy)
    exact rowS_le y this.2 this.1)
  have h2 : spg.size = 1 := rfl
  rw [List.length_map, List.length_take, h2] at h1
  omega
theorem take_map {α : Type} (f : α → ByteArray) (l : List α) (n : Nat) (h : n < l.length) : (l.take (n + 1)).map f = (l.take n).map f ++ [f l[n]] := by
  rw [List.take_succ_eq_append_getElem h, List.map_append]
  rfl
theorem join_next {α : Type} (f : α → ByteArray) (s : ByteArray) (l : List α) (n : Nat) (h : n < l.length) (h0 : n ≠ 0) : joinS ((l.take (n + 1)).map f) s = joinS ((l.take n).map f) s ++ s ++ f l[n] := by
  rw [take_map f l n h]
  refine joinS_snoc _ _ _ ?_
  intro hc
  have := congrArg List.length hc
  rw [List.length_map, List.length_take, List.length_nil] at this
  omega
theorem join_first {α : Type} (f : α → ByteArray) (s : ByteArray) (l : List α) (h : 0 < l.length) : joinS ((l.take (0 + 1)).map f) s = f l[0] := by
  rw [take_map f l 0 h]
  exact joinS_one _ _
section
variable (g : List (List Int)) (hg : ∀ row ∈ g, row.length ≤ 60 ∧ ∀ x ∈ row, 0 ≤ x ∧ x ≤ 60) (hl : g.length ≤ 60)
include hg hl
theorem spec_row_ev (i : Nat) (hi : i < g.length) (base R : ByteArray) (hb : base.size ≤ 300000) (hne : g[i].length ≠ 0)
    (hk : Ev (fun k => spec_l03Text.l0 k g (base ++ rowS g[i]) ((i + 1 : Nat) : Int)) R) :
    ∀ (d j : Nat), j + d = g[i].length → Ev (fun k => spec_l03Text.l1 k g (base ++ joinS ((g[i].take j).map dn) com) (i : Int) (j : Int)) R := by
  have hrow := hg g[i] (List.getElem_mem hi)
  intro d
  induction d with
  | zero =>
    intro j h
    refine Ev_round ?_
    simp only [spec_l03Text.l1]
    rw [rdL2_nat hi, List.take_of_length_le (by omega)]
    refine Ev_pos (by omega) (Ev_pos (by omega) (Ev_neg (by omega) ?_))
    rw [w64 (by omega) (by omega)]
    unfold rowS at hk
    rw [if_neg hne] at hk
    exact hk
  | succ d ih =>
    intro j h
    have hj : j < g[i].length := by omega
    have hx := hrow.2 _ (List.getElem_mem hj)
    have hp := part_le g[i] hrow.2 hrow.1 j
    have hs := dn_size hx
    have hsz : (base ++ joinS ((g[i].take j).map dn) com).size ≤ 303720 := by rw [ByteArray.size_append]; omega
    refine Ev_round ?_
    simp only [spec_l03Text.l1]
    rw [rdL2_nat hi, rd_nat hj, w64 (x := g[i][j]) (by omega) (by omega), w64 (by omega) (by omega)]
    refine Ev_pos (by omega) (Ev_pos (by omega) (Ev_pos (by omega) ?_))
    by_cases j0 : j = 0
    · subst j0
      refine Ev_neg (by omega) (Ev_pos (by omega) (Ev.bind (dn_spec hx) (Ev_pos (by omega) ?_)))
      have e : (base ++ joinS ((g[i].take 0).map dn) com) ++ dn g[i][0] = base ++ joinS ((g[i].take (0 + 1)).map dn) com := by
        rw [join_first dn com g[i] hj, show joinS ((g[i].take 0).map dn) com = ⟨#[]⟩ from rfl, ba_nil]
      rw [e]
      exact ih (0 + 1) (by omega)
    · have hc : (⟨#[44]⟩ : ByteArray).size = 1 := rfl
      refine Ev_pos (by omega) (Ev_pos (by omega) (Ev_pos (by omega) (Ev.bind (dn_spec hx) (Ev_pos (by rw [ByteArray.size_append, hc]; omega) ?_))))
      have e : (base ++ joinS ((g[i].take j).map dn) com ++ (⟨#[44]⟩ : ByteArray)) ++ dn g[i][j] = base ++ joinS ((g[i].take (j + 1)).map dn) com := by
        rw [join_next dn com g[i] j hj j0, ba_assoc, ba_assoc, ba_assoc]
        rfl
      rw [e]
      exact ih (j + 1) (by omega)
theorem spec_text_ev : ∀ (d i : Nat), i + d = g.length → Ev (fun k => spec_l03Text.l0 k g (joinS ((g.take i).map rowS) spg) (i : Int)) (joinS (g.map rowS) spg) := by
  intro d
  induction d with
  | zero =>
    intro i h
    refine Ev_round ?_
    simp only [spec_l03Text.l0]
    rw [List.take_of_length_le (by omega)]
    exact Ev_neg (by omega) (Ev.now _)
  | succ d ih =>
    intro i h
    have hi : i < g.length := by omega
    have hrow := hg g[i] (List.getElem_mem hi)
    have hw := rows_le g hg hl i
    have body : ∀ base : ByteArray, base.size ≤ 300000 → Ev (fun k => spec_l03Text.l0 k g (base ++ rowS g[i]) ((i + 1 : Nat) : Int)) (joinS (g.map rowS) spg) → Ev (fun k => spec_l03Text.j1 k g base (i : Int)) (joinS (g.map rowS) spg) := by
      intro base hb hk
      refine Ev_round ?_
      simp only [spec_l03Text.j1]
      rw [rdL2_nat hi]
      refine Ev_pos (by omega) (Ev_pos (by omega) ?_)
      by_cases he : g[i].length = 0
      · refine Ev_pos (by omega) (Ev_pos (by omega) (Ev_round ?_))
        simp only [spec_l03Text.j2]
        refine Ev_round ?_
        simp only [spec_l03Text.l1]
        rw [rdL2_nat hi]
        refine Ev_pos (by omega) (Ev_pos (by omega) (Ev_neg (by omega) ?_))
        rw [w64 (by omega) (by omega)]
        unfold rowS at hk
        rw [if_pos he] at hk
        exact hk
      · refine Ev_neg (by omega) (Ev_round ?_)
        simp only [spec_l03Text.j2]
        have := spec_row_ev g hg hl i hi base _ hb he hk g[i].length 0 (by omega)
        rw [show joinS ((g[i].take 0).map dn) com = ⟨#[]⟩ from rfl, ba_nil] at this
        exact this
    refine Ev_round ?_
    simp only [spec_l03Text.l0]
    refine Ev_pos (by omega) ?_
    by_cases i0 : i = 0
    · subst i0
      refine Ev_neg (by omega) (body _ (by omega) ?_)
      have e : joinS ((g.take 0).map rowS) spg ++ rowS g[0] = joinS ((g.take (0 + 1)).map rowS) spg := by
        rw [join_first rowS spg g hi, show joinS ((g.take 0).map rowS) spg = ⟨#[]⟩ from rfl, nil_ba]
      rw [e]
      exact ih (0 + 1) (by omega)
    · refine Ev_pos (by omega) (Ev_pos (by omega) (body _ (by rw [ByteArray.size_append]; show _ + 1 ≤ _; omega) ?_))
      have e : joinS ((g.take i).map rowS) spg ++ (⟨#[32]⟩ : ByteArray) ++ rowS g[i] = joinS ((g.take (i + 1)).map rowS) spg := by
        rw [join_next rowS spg g i hi i0]
        rfl
      rw [e]
      exact ih (i + 1) (by omega)
theorem impl_row_ev (i : Nat) (hi : i < g.length) (R : ByteArray)
    (hk : Ev (fun k => impl_GameText.l0 k ((g.take (i + 1)).map rowS) g (g.length : Int) ((i + 1 : Nat) : Int)) R) :
    ∀ (d j : Nat), j + d = g[i].length → Ev (fun k => impl_GameText.l1 k ((g.take i).map rowS) ((g[i].take j).map dn) g (g.length : Int) (i : Int) g[i] (g[i].length : Int) (j : Int)) R := by
  have hrow := hg g[i] (List.getElem_mem hi)
  have hwl : ((g.take i).map rowS).length = i := by rw [List.length_map, List.length_take]; omega
  intro d
  induction d with
  | zero =>
    intro j h
    refine Ev_round ?_
    simp only [impl_GameText.l1]
    rw [List.take_of_length_le (show g[i].length ≤ j by omega), List.length_map, hwl, w64 (x := (i : Int) + 1) (by omega) (by omega)]
    refine Ev_neg (by omega) ?_
    rw [take_map rowS g i hi] at hk
    by_cases he : g[i].length = 0
    · refine Ev_pos (by omega) (Ev_bind1 (a := rowS g[i]) ?_ (Ev_pos (by omega) hk))
      unfold rowS strings_Join.f
      rw [if_pos he]
      rw [joinS_one]
      exact if_pos ⟨by simp, by decide⟩
    · refine Ev_neg (by omega) (Ev_bind1 (a := rowS g[i]) ?_ (Ev_pos (by omega) hk))
      have hp := part_le g[i] hrow.2 hrow.1 g[i].length
      rw [List.take_of_length_le (Nat.le_refl _)] at hp
      unfold rowS strings_Join.f
      rw [if_neg he]
      exact if_pos ⟨by rw [List.length_map]; omega, Nat.le_trans hp (by decide)⟩
  | succ d ih =>
    intro j h
    have hj : j < g[i].length := by omega
    have hx := hrow.2 _ (List.getElem_mem hj)
    refine Ev_round ?_
    simp only [impl_GameText.l1]
    rw [rd_nat hj, w64 (x := g[i][j]) (by omega) (by omega), w64 (x := (j : Int) + 1) (by omega) (by omega)]
    refine Ev_pos (by omega) (Ev_pos (by omega) (Ev_pos (by omega) (Ev_bind1 (dn_impl hx) (Ev_pos (by rw [List.length_map, List.length_take]; omega) ?_))))
    rw [← take_map dn g[i] j hj]
    exact ih (j + 1) (by omega)
theorem impl_text_ev : ∀ (d i : Nat), i + d = g.length → Ev (fun k => impl_GameText.l0 k ((g.take i).map rowS) g (g.length : Int) (i : Int)) (joinS (g.map rowS) spg) := by
  intro d
  induction d with
  | zero =>
    intro i h
    refine Ev_round ?_
    simp only [impl_GameText.l0]
    rw [List.take_of_length_le (by omega)]
    refine Ev_neg (by omega) (Ev_bind1 (a := joinS (g.map rowS) spg) ?_ (Ev.now _))
    have hw := rows_le g hg hl g.length
    rw [List.take_of_length_le (Nat.le_refl _)] at hw
    unfold strings_Join.f
    exact if_pos ⟨by rw [List.length_map]; omega, Nat.le_trans hw (by decide)⟩
  | succ d ih =>
    intro i h
    have hi : i < g.length := by omega
    refine Ev_round ?_
    simp only [impl_GameText.l0]
    rw [rdL2_nat hi]
    exact Ev_pos (by omega) (Ev_pos (by omega) (Ev_pos (by omega) (impl_row_ev g hg hl i hi _ (ih (i + 1) (by omega)) g[i].length 0 (by omega))))
end
theorem FnExactGameText (g : List (List Int)) (hg : g.length ≤ maxLen) (hr : ∀ mv ∈ g, mv.length ≤ maxLen ∧ ∀ x ∈ mv, (Lit.int .i8 x).wf = true) : ∃ k, laws_FnExactGameText.f k g = some true := by
  refine Ev.rounds (r := true) ?_
  unfold laws_FnExactGameText.f
  obtain ⟨r, h1, _, h3⟩ := szGame_ev g hg (fun mv hm => (hr mv hm).1) 1048576 ⟨by omega, by omega⟩
  refine Ev.bind h1 ?_
  by_cases c : r < 0
  · exact Ev_pos c (Ev.now _)
  · obtain ⟨hl, hl2⟩ := h3 (by omega)
    have hv : ∀ mv ∈ g, mv.length ≤ 1048576 ∧ ∀ x ∈ mv, -128 ≤ x ∧ x ≤ 127 := fun mv hm => ⟨hl2 mv hm, fun x hx => wf_i8 ((hr mv hm).2 x hx)⟩
    have both : ∃ s : ByteArray, Ev (fun k => spec_GameText.f k g) s ∧ Ev (fun k => impl_GameText.f k g) s := by
      unfold spec_GameText.f impl_GameText.f
      cases hV : validG g with
      | false =>
        have e1 := spec_ok_ev g hl hv
        have e2 := impl_valid_ev g hl hv
        rw [hV] at e1 e2
        exact ⟨⟨#[]⟩, Ev.bind e1 (Ev_neg (by simp) (Ev.now _)), Ev.bind e2 (Ev_neg (by simp) (Ev.now _))⟩
      | true =>
        have e1 := spec_ok_ev g hl hv
        have e2 := impl_valid_ev g hl hv
        rw [hV] at e1 e2
        have hlen := valid_len hV
        have hrow : ∀ row ∈ g, row.length ≤ 60 ∧ ∀ x ∈ row, 0 ≤ x ∧ x ≤ 60 := by
          intro row hm
          obtain ⟨j, hj, rfl⟩ := List.getElem_of_mem hm
          have a := valid_row_len hV j hj
          refine ⟨by omega, fun x hx => ?_⟩
          have b := valid_at hV j hj x hx
          omega
        refine ⟨joinS (g.map rowS) spg, Ev.bind e1 (Ev_pos (by trivial) (Ev.bind (spec_text_ev g hrow hlen.2 g.length 0 (by omega)) (Ev.now _))), Ev.bind e2 (Ev_pos (by trivial) (impl_text_ev g hrow hlen.2 g.length 0 (by omega)))⟩
    obtain ⟨s, hs, hi⟩ := both
    refine Ev_neg c ?_
    refine Ev.bind (toGame_ev g hl hl2) ?_
    refine Ev.bind hs ?_
    refine Ev.bind (toGame_ev g hl hl2) ?_
    refine Ev.bind hi ?_
    refine Ev_pos rfl ?_
    refine Ev.bind (toGame_ev g hl hl2) ?_
    refine Ev.bind (eqGame_ev g g hl hl2) ?_
    exact Ev_pos (by simp) (Ev.now _)

end Go.Proofs.YtojjakjpdkpmiaaDoor.Pure
