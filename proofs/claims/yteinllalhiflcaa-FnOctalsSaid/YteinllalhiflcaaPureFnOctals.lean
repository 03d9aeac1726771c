/- FnOctals: the printed pure statement holds: at every input the law's function answers true; no condition but the bounds of its kinds. -/
import Derived.Test.YteinllalhiflcaaQFnOctalsx7
import Derived.Test.YteinllalhiflcaaLib
import Derived.Test.YteinllalhiflcaaLib3
set_option linter.unusedVariables false
set_option linter.unusedSimpArgs false
namespace Go.Proofs.Yteinllalhiflcaa.Pure
open Go.RowKit Go.Proofs.Yteinllalhiflcaa.QFnOctals Go.Proofs.YteinllalhiflcaaW.PrintWords Go.Proofs.YteinllalhiflcaaW.PrintLast Go.Proofs.Yteinllalhiflcaa.Lib

theorem sameNims_ev (xs : List Int) (hn : xs.length ≤ 100000) : Ev (fun k => spec_SameNims.f k xs xs) true := by
  have main : ∀ (d n : Nat), n + d = xs.length → Ev (fun k => spec_SameNims.l0 k xs xs (n : Int)) true := by
    intro d
    induction d with
    | zero =>
      intro n h
      refine Ev_round ?_
      simp only [spec_SameNims.l0]
      exact Ev_neg (by omega) (Ev.now _)
    | succ d ih =>
      intro n h
      refine Ev_round ?_
      simp only [spec_SameNims.l0]
      rw [w64 (by omega) (by omega)]
      exact Ev_pos (by omega) (Ev_pos (by omega) (Ev_pos (by omega) (Ev_pos (by simp) (ih (n + 1) (by omega)))))
  exact Ev_pos rfl (main xs.length 0 (by omega))

theorem rdP2 {xs : List S46} {n : Nat} (h : n < xs.length) : rd_T46 xs (n : Int) = xs[n] := by simp [rd_T46, List.getD_eq_getElem?_getD, List.getElem?_eq_getElem h]
theorem samePairs_ev (xs : List S46) (hn : xs.length ≤ 100000) : Ev (fun k => spec_SamePairs.f k xs xs) true := by
  have main : ∀ (d n : Nat), n + d = xs.length → Ev (fun k => spec_SamePairs.l0 k xs xs (n : Int)) true := by
    intro d
    induction d with
    | zero =>
      intro n h
      refine Ev_round ?_
      simp only [spec_SamePairs.l0]
      exact Ev_neg (by omega) (Ev.now _)
    | succ d ih =>
      intro n h
      refine Ev_round ?_
      simp only [spec_SamePairs.l0]
      rw [w64 (by omega) (by omega)]
      exact Ev_pos (by omega) (Ev_pos (by omega) (Ev_pos (by omega) (Ev_neg (by simp) (ih (n + 1) (by omega)))))
  exact Ev_pos rfl (main xs.length 0 (by omega))

theorem seed_range (x : Int) : 0 ≤ IntKind.u64.wrap x ∧ IntKind.u64.wrap x ≤ 18446744073709551615 := by rw [IntKind.wrap_u64]; omega
theorem low8 (x : Int) : 0 ≤ wrap64 (Go.bits .and .u64 (IntKind.u64.wrap x / 1099511627776) 255) ∧ wrap64 (Go.bits .and .u64 (IntKind.u64.wrap x / 1099511627776) 255) ≤ 255 := by
  have h := seed_range x
  generalize IntKind.u64.wrap x = y at h
  have hd : 0 ≤ y / 1099511627776 ∧ y / 1099511627776 < 18446744073709551616 := by omega
  generalize y / 1099511627776 = z at hd
  rw [u64_and z 255 hd.1 hd.2 (by omega) (by omega)]
  have : z.toNat &&& (255 : Int).toNat ≤ 255 := Nat.and_le_right
  rw [w64 (by omega) (by omega)]
  omega
/-- A byte is drawn. -/
theorem next_ok (bs : List Int) (hb : ∀ x ∈ bs, 0 ≤ x ∧ x ≤ 255) (hl : bs.length ≤ 4096) (i : Nat) (hi : i ≤ 1000000) (sd : Int) : ∃ v sd', spec_l00Src_next.f bs (i : Int) sd = some (v, ((i + 1 : Nat) : Int), sd') ∧ 0 ≤ v ∧ v ≤ 255 := by
  unfold spec_l00Src_next.f
  have e1 : wrap64 ((i : Int) + 1) = ((i + 1 : Nat) : Int) := by rw [w64 (by omega) (by omega)]; omega
  rw [e1]
  by_cases c : i < bs.length
  · rw [if_pos (by omega), if_pos (by omega)]
    have hv := hb _ (rd_mem (xs := bs) (i := (i : Int)) (by omega) (by omega))
    rw [if_pos (by omega)]
    refine ⟨_, _, rfl, ?_⟩
    rw [w64 (by omega) (by omega)]
    exact hv
  · rw [if_neg (by omega), if_neg (by omega)]
    exact ⟨_, _, rfl, low8 _⟩

/-- A number below n is drawn. -/
theorem pick_ok (bs : List Int) (hb : ∀ x ∈ bs, 0 ≤ x ∧ x ≤ 255) (hl : bs.length ≤ 4096) (i : Nat) (hi : i ≤ 1000000) (sd : Int) (n : Int) (h1 : 1 < n) (h2 : n ≤ 200) : ∃ v sd', spec_l00Src_pick.f bs (i : Int) sd n = some (v, ((i + 1 : Nat) : Int), sd') ∧ 0 ≤ v ∧ v < n := by
  obtain ⟨v, sd', h, h3, h4⟩ := next_ok bs hb hl i hi sd
  unfold spec_l00Src_pick.f
  rw [if_neg (by omega), h]
  simp only [Option.bind_some]
  rw [if_neg (by omega), if_neg (by omega)]
  refine ⟨_, _, rfl, ?_⟩
  rw [Int.tmod_eq_emod_of_nonneg h3]
  exact ⟨Int.emod_nonneg _ (by omega), Int.emod_lt_of_pos _ (by omega)⟩

/-! Octal rules. -/
def octR (D : List Int) (h : Int) : Bool := !(D.any fun x => decide (x > 7)) && (decide (1 ≤ D.length ∧ D.length ≤ 8) && decide (0 ≤ h ∧ h ≤ 200))
theorem octR_true {D : List Int} {h : Int} (e : octR D h = true) : (∀ x ∈ D, x ≤ 7) ∧ 1 ≤ D.length ∧ D.length ≤ 8 ∧ 0 ≤ h ∧ h ≤ 200 := by
  unfold octR at e
  rw [Bool.and_eq_true, Bool.and_eq_true, Bool.not_eq_true', decide_eq_true_eq, decide_eq_true_eq] at e
  refine ⟨fun x hx => ?_, e.2.1.1, e.2.1.2, e.2.2.1, e.2.2.2⟩
  have := List.any_eq_false.1 e.1 x hx
  simp at this
  omega
theorem spec_oct_ev (D : List Int) (hl : D.length ≤ 1048576) (h : Int) : Ev (fun k => spec_l03Octal.f k D h) (octR D h) := by
  have tail : Ev (fun k => ((spec_l00In.f (D.length : Int) 1 8).bind fun t105 => (if t105 = true then ((spec_l00In.f h 0 200).bind fun t106 => (some t106)) else (some false)))) (decide (1 ≤ D.length ∧ D.length ≤ 8) && decide (0 ≤ h ∧ h ≤ 200)) := by
    unfold spec_l00In.f
    by_cases c0 : (D.length : Int) ≥ 1
    · refine Ev_bind1 (if_pos c0) ?_
      by_cases c1 : (D.length : Int) ≤ 8
      · refine Ev_pos (by simpa using c1) ?_
        have e1 : decide (1 ≤ D.length ∧ D.length ≤ 8) = true := decide_eq_true (by omega)
        rw [e1, Bool.true_and]
        by_cases c2 : h ≥ 0
        · refine Ev_bind1 (if_pos c2) (Ev_as (Ev.now _) ?_)
          apply decide_eq_decide.2
          omega
        · refine Ev_bind1 (if_neg c2) (Ev_as (Ev.now _) ?_)
          exact (decide_eq_false (by omega)).symm
      · refine Ev_neg (by simpa using c1) (Ev_as (Ev.now _) ?_)
        rw [decide_eq_false (p := 1 ≤ D.length ∧ D.length ≤ 8) (by omega), Bool.false_and]
    · refine Ev_bind1 (if_neg c0) (Ev_neg (by simp) (Ev_as (Ev.now _) ?_))
      rw [decide_eq_false (p := 1 ≤ D.length ∧ D.length ≤ 8) (by omega), Bool.false_and]
  have main : ∀ (d n : Nat), n + d = D.length → (D.take n).any (fun x => decide (x > 7)) = false → Ev (fun k => spec_l03Octal.l0 k D h (n : Int)) (octR D h) := by
    intro d
    induction d with
    | zero =>
      intro n hn h0
      rw [List.take_of_length_le (by omega)] at h0
      refine Ev_round ?_
      simp only [spec_l03Octal.l0]
      refine Ev_neg (by omega) (Ev_as tail ?_)
      unfold octR
      rw [h0]
      rfl
    | succ d ih =>
      intro n hn h0
      have hlt : n < D.length := by omega
      refine Ev_round ?_
      simp only [spec_l03Octal.l0]
      rw [rd_nat hlt, w64 (by omega) (by omega)]
      refine Ev_pos (by omega) (Ev_pos (by omega) ?_)
      by_cases c : D[n] > 7
      · refine Ev_pos c (Ev_as (Ev.now _) ?_)
        unfold octR
        rw [List.any_eq_true.2 ⟨D[n], List.getElem_mem hlt, by simpa using c⟩]
        rfl
      · refine Ev_neg c (ih (n + 1) (by omega) ?_)
        rw [List.take_succ_eq_append_getElem hlt, List.any_append, h0]
        simp
        omega
  exact main D.length 0 (by omega) (by simp)

/-- Is d's bit of the value b set (b = 1, 2 or 4)? -/
def bitD (D : List Int) (n : Nat) (b : Int) : Bool := decide (Go.bits .and .u8 (rd D ((n - 1 : Nat) : Int)) b ≠ 0)
/-- May heaps of a and b, a at most b, be left of a heap of h? -/
def mayD (D : List Int) (h a b : Nat) : Bool := decide (1 ≤ h - a - b ∧ h - a - b ≤ D.length) && (if b = 0 then bitD D (h - a - b) 1 else if a = 0 then bitD D (h - a - b) 2 else bitD D (h - a - b) 4)
theorem may_f (D : List Int) (hl : D.length ≤ 8) (h a b : Nat) (hh : h ≤ 200) (hab : a + b < h) : spec_l03May.f D (h : Int) (a : Int) (b : Int) = some (mayD D h a b) := by
  obtain ⟨n, hn⟩ : ∃ n, n = h - a - b := ⟨_, rfl⟩
  have e1 : wrap64 ((wrap64 ((h : Int) - (a : Int))) - (b : Int)) = (n : Int) := by
    rw [w64 (x := (h : Int) - (a : Int)) (by omega) (by omega), w64 (by omega) (by omega)]
    omega
  have e2 : wrap64 ((n : Int) - 1) = ((n - 1 : Nat) : Int) := by
    rw [w64 (by omega) (by omega)]
    omega
  have hbne : ∀ x : Int, (x != 0) = decide (x ≠ 0) := fun x => by
    by_cases c : x = 0
    · simp [c]
    · simp [c]
  unfold spec_l03May.f mayD bitD spec_l00In.f
  rw [e1, e2, ← hn, if_pos (show (n : Int) ≥ 1 by omega)]
  simp only [Option.bind_some]
  by_cases c : (n : Int) ≤ (D.length : Int)
  · rw [if_pos (by simpa using c), if_pos (by omega), if_pos (by omega), decide_eq_true (p := 1 ≤ n ∧ n ≤ D.length) (by omega), Bool.true_and]
    by_cases cb : b = 0
    · rw [if_pos (by omega), if_pos cb, hbne]
    · rw [if_neg (by omega), if_neg cb]
      by_cases ca : a = 0
      · rw [if_pos (by omega), if_pos ca, hbne]
      · rw [if_neg (by omega), if_neg ca, hbne]
  · rw [if_neg (by simpa using c), decide_eq_false (p := 1 ≤ n ∧ n ≤ D.length) (by omega), Bool.false_and]
def pr2 (a b : Nat) : S46 := ⟨(a : Int), (b : Int)⟩
def rowSj (D : List Int) (h a j : Nat) : List S46 := ((List.range' a j).filter fun b => mayD D h a b).map (pr2 a)
def rowSf (D : List Int) (h a : Nat) : List S46 := rowSj D h a (h - 2 * a)
def LS (D : List Int) (h m : Nat) : List S46 := (List.range m).flatMap (rowSf D h)
theorem rowSj_zero (D : List Int) (h a : Nat) : rowSj D h a 0 = [] := by simp [rowSj]
theorem rowSj_succ (D : List Int) (h a j : Nat) : rowSj D h a (j + 1) = rowSj D h a j ++ (if mayD D h a (a + j) then [pr2 a (a + j)] else []) := by
  unfold rowSj
  rw [List.range'_concat, List.filter_append, List.map_append, Nat.one_mul]
  congr 1
  by_cases c : mayD D h a (a + j) = true
  · simp [c]
  · simp [c]
theorem rowSj_len (D : List Int) (h a j : Nat) : (rowSj D h a j).length ≤ j := by
  unfold rowSj
  rw [List.length_map]
  exact Nat.le_trans (List.length_filter_le _ _) (by simp)
theorem LS_succ (D : List Int) (h m : Nat) : LS D h (m + 1) = LS D h m ++ rowSf D h m := by
  unfold LS
  rw [List.range_succ, List.flatMap_append]
  simp
theorem LS_len (D : List Int) (h : Nat) : ∀ m, (LS D h m).length ≤ m * h := by
  intro m
  induction m with
  | zero => simp [LS]
  | succ m ih =>
    rw [LS_succ, List.length_append, Nat.succ_mul]
    have := rowSj_len D h m (h - 2 * m)
    unfold rowSf
    omega
theorem mem_LS (D : List Int) (h : Nat) (x : S46) : x ∈ LS D h (h + 1) ↔ ∃ a b : Nat, x = pr2 a b ∧ a ≤ b ∧ a + b < h ∧ mayD D h a b = true := by
  unfold LS rowSf rowSj
  rw [List.mem_flatMap]
  constructor
  · rintro ⟨a, _, hx⟩
    obtain ⟨b, hb, rfl⟩ := List.mem_map.1 hx
    rw [List.mem_filter, List.mem_range'_1] at hb
    exact ⟨a, b, rfl, by omega, by omega, hb.2⟩
  · rintro ⟨a, b, rfl, h1, h2, h3⟩
    refine ⟨a, List.mem_range.2 (by omega), List.mem_map.2 ⟨b, ?_, rfl⟩⟩
    rw [List.mem_filter, List.mem_range'_1]
    exact ⟨by omega, h3⟩

theorem spec_left_ev (D : List Int) (hl : D.length ≤ 8) (h : Nat) (hh : h ≤ 200) : Ev (fun k => spec_l03Left.f k D (h : Int)) (LS D h (h + 1)) := by
  have outer : ∀ (d a : Nat), a + d = h + 1 → Ev (fun k => spec_l03Left.l0 k D (h : Int) (LS D h a) (a : Int)) (LS D h (h + 1)) := by
    intro d
    induction d with
    | zero =>
      intro a ha
      obtain rfl : a = h + 1 := by omega
      refine Ev_round ?_
      simp only [spec_l03Left.l0]
      exact Ev_neg (by omega) (Ev.now _)
    | succ d ih =>
      intro a ha
      have nx := ih (a + 1) (by omega)
      rw [LS_succ] at nx
      have hlen := LS_len D h a
      have hal : a * h ≤ 200 * 200 := Nat.mul_le_mul (by omega) hh
      have inner : ∀ (e j : Nat), j + e = h - 2 * a → Ev (fun k => spec_l03Left.l1 k D (h : Int) (LS D h a ++ rowSj D h a j) (a : Int) ((a + j : Nat) : Int)) (LS D h (h + 1)) := by
        intro e
        induction e with
        | zero =>
          intro j hj
          refine Ev_round ?_
          simp only [spec_l03Left.l1]
          rw [w64 (x := (a : Int) + ((a + j : Nat) : Int)) (by omega) (by omega), w64 (x := (a : Int) + 1) (by omega) (by omega)]
          obtain rfl : j = h - 2 * a := by omega
          exact Ev_neg (by omega) nx
        | succ e ihe =>
          intro j hj
          have nx2 := ihe (j + 1) (by omega)
          rw [rowSj_succ, ← List.append_assoc] at nx2
          have h2 := rowSj_len D h a j
          refine Ev_round ?_
          simp only [spec_l03Left.l1]
          rw [w64 (x := (a : Int) + ((a + j : Nat) : Int)) (by omega) (by omega), w64 (x := ((a + j : Nat) : Int) + 1) (by omega) (by omega)]
          refine Ev_pos (by omega) (Ev_bind1 (may_f D hl h a (a + j) hh (by omega)) ?_)
          by_cases c : mayD D h a (a + j) = true
          · rw [if_pos c] at nx2
            exact Ev_pos c (Ev_pos (by rw [List.length_append]; omega) nx2)
          · rw [if_neg c, List.append_nil] at nx2
            exact Ev_neg c nx2
      have hin := inner (h - 2 * a) 0 (by omega)
      rw [rowSj_zero, List.append_nil] at hin
      refine Ev_round ?_
      simp only [spec_l03Left.l0]
      exact Ev_pos (by omega) hin
  exact outer (h + 1) 0 (by omega)

def omR (D : List Int) (h : Int) : List S46 × Int := if octR D h = true then (LS D h.toNat (h.toNat + 1), 0) else ([], 2)
theorem spec_om_ev (D : List Int) (hl : D.length ≤ 1048576) (h : Int) : Ev (fun k => spec_OctalMoves.f k D h) (omR D h) := by
  refine Ev.bind (spec_oct_ev D hl h) ?_
  unfold omR
  by_cases c : octR D h = true
  · obtain ⟨_, _, h2, h3, h4⟩ := octR_true c
    obtain ⟨H, rfl⟩ := Int.eq_ofNat_of_zero_le h3
    rw [if_pos c]
    exact Ev_pos c (Ev.bind (spec_left_ev D h2 H (by omega)) (Ev.now _))
  · rw [if_neg c]
    exact Ev_neg c (Ev.now _)
theorem omR_len (D : List Int) (h : Int) : (omR D h).1.length ≤ 40200 := by
  unfold omR
  by_cases c : octR D h = true
  · obtain ⟨_, _, _, h3, h4⟩ := octR_true c
    rw [if_pos c]
    have := LS_len D h.toNat (h.toNat + 1)
    have h3 : (h.toNat + 1) * h.toNat ≤ 201 * 200 := Nat.mul_le_mul (by omega) (by omega)
    simp only
    omega
  · rw [if_neg c]
    simp

theorem least_ev (l : List Int) (hl : l.length ≤ 65535) (hr : ∀ x ∈ l, 0 ≤ x ∧ x ≤ 65535) : Ev (fun k => spec_l03Least.f k l) ((mexN l : Nat) : Int) := by
  have hm := mexN_is l
  have hle := mexN_le l
  have last : ∀ (d n : Nat), n + d = mexN l → Ev (fun k => spec_l03Least.l1 k (flags (l.length + 1) l) (n : Int)) ((mexN l : Nat) : Int) := by
    intro d
    induction d with
    | zero =>
      intro n h
      obtain rfl : n = mexN l := by omega
      refine Ev_round ?_
      simp only [spec_l03Least.l1]
      refine Ev_pos (by omega) (Ev_pos (by rw [flags_length]; omega) (Ev_neg ?_ ?_))
      · rw [rdOf, List.getD_eq_getElem?_getD, List.getElem?_eq_getElem (by rw [Int.toNat_natCast, flags_length]; omega), Option.getD_some, flags_get]
        simp [hm.1]
      · rw [wu16 (by omega) (by omega)]
        exact Ev.now _
    | succ d ih =>
      intro n h
      refine Ev_round ?_
      simp only [spec_l03Least.l1]
      refine Ev_pos (by omega) (Ev_pos (by rw [flags_length]; omega) (Ev_pos ?_ ?_))
      · rw [rdOf, List.getD_eq_getElem?_getD, List.getElem?_eq_getElem (by rw [Int.toNat_natCast, flags_length]; omega), Option.getD_some, flags_get]
        simp [hm.2 n (by omega)]
      · rw [w64 (by omega) (by omega)]
        exact ih (n + 1) (by omega)
  have main : ∀ (d n : Nat), n + d = l.length → Ev (fun k => spec_l03Least.l0 k l (flags (l.length + 1) (l.take n)) (n : Int)) ((mexN l : Nat) : Int) := by
    intro d
    induction d with
    | zero =>
      intro n h
      obtain rfl : n = l.length := by omega
      refine Ev_round ?_
      simp only [spec_l03Least.l0]
      refine Ev_neg (by omega) ?_
      rw [List.take_length]
      exact last (mexN l) 0 (by omega)
    | succ d ih =>
      intro n h
      have hn : n < l.length := by omega
      have hx := hr _ (List.getElem_mem hn)
      have ht : l.take (n + 1) = l.take n ++ [l[n]] := by rw [List.take_succ_eq_append_getElem hn]
      refine Ev_round ?_
      simp only [spec_l03Least.l0]
      refine Ev_pos (by omega) (Ev_pos (by omega) ?_)
      rw [rd_nat hn, w64 (by omega) (by omega), w64 (by omega) (by omega), flags_length]
      have nx := ih (n + 1) (by omega)
      rw [ht] at nx
      by_cases c : l[n] < ((l.length + 1 : Nat) : Int)
      · refine Ev_pos c (Ev_pos (by omega) (Ev_pos c ?_))
        rw [flags_set _ _ _ (by omega), Int.toNat_of_nonneg hx.1]
        exact nx
      · refine Ev_neg c ?_
        rw [flags_out _ _ _ (by omega)] at nx
        exact nx
  unfold spec_l03Least.f
  rw [w64 (by omega) (by omega)]
  refine Ev_pos (by omega) (Ev_pos (by omega) ?_)
  have := main l.length 0 (by omega)
  rw [List.take_zero, flags_nil] at this
  exact this

/-! The values of heaps under an octal rule. -/
def octL (D out : List Int) (h : Nat) : List Int := (LS D h (h + 1)).map fun m => X (rd out m.f0) (rd out m.f1)
def OV (D : List Int) : Nat → List Int
  | 0 => []
  | n + 1 => OV D n ++ [((mexN (octL D (OV D n) n) : Nat) : Int)]
theorem OV_len (D : List Int) (n : Nat) : (OV D n).length = n := by
  induction n with
  | zero => rfl
  | succ n ih => simp [OV, ih]
theorem octL_len (D out : List Int) (h : Nat) (hh : h ≤ 200) : (octL D out h).length ≤ 40200 := by
  unfold octL
  rw [List.length_map]
  have := LS_len D h (h + 1)
  have h3 : (h + 1) * h ≤ 201 * 200 := Nat.mul_le_mul (by omega) hh
  omega
theorem OV_range (D : List Int) (n : Nat) (hn : n ≤ 201) : ∀ x ∈ OV D n, 0 ≤ x ∧ x ≤ 40200 := by
  induction n with
  | zero => intro x hx; simp [OV] at hx
  | succ n ih =>
    intro x hx
    unfold OV at hx
    rcases List.mem_append.1 hx with hx | hx
    · exact ih (by omega) x hx
    · rw [List.mem_singleton.1 hx]
      have h1 := mexN_le (octL D (OV D n) n)
      have h2 := octL_len D (OV D n) n (by omega)
      omega
theorem OV_rd (D : List Int) (n a : Nat) (hn : n ≤ 201) (ha : a < n) : 0 ≤ rd (OV D n) (a : Int) ∧ rd (OV D n) (a : Int) ≤ 65535 := by
  have := OV_range D n hn _ (rd_mem (xs := OV D n) (i := (a : Int)) (by omega) (by rw [OV_len]; omega))
  omega
theorem octL_range (D : List Int) (n : Nat) (hn : n ≤ 200) : ∀ x ∈ octL D (OV D n) n, 0 ≤ x ∧ x ≤ 65535 := by
  intro x hx
  unfold octL at hx
  obtain ⟨m, hm, rfl⟩ := List.mem_map.1 hx
  obtain ⟨a, b, rfl, h1, h2, _⟩ := (mem_LS D n m).1 hm
  exact X_range (OV_rd D n a (by omega) (by omega)) (OV_rd D n b (by omega) (by omega))
/-- What the reference gathers, by the number taken away. -/
def spJ (D out : List Int) (h n j : Nat) : List Int := ((List.range j).filter fun (a : Nat) => mayD D h a (h - n - a)).map fun (a : Nat) => X (rd out (a : Int)) (rd out ((h - n - a : Nat) : Int))
def spL (D out : List Int) (h m : Nat) : List Int := (List.range m).flatMap fun n => spJ D out h (n + 1) ((h - (n + 1)) / 2 + 1)
theorem spJ_zero (D out : List Int) (h n : Nat) : spJ D out h n 0 = [] := by simp [spJ]
theorem spJ_succ (D out : List Int) (h n j : Nat) : spJ D out h n (j + 1) = spJ D out h n j ++ (if mayD D h j (h - n - j) then [X (rd out (j : Int)) (rd out ((h - n - j : Nat) : Int))] else []) := by
  unfold spJ
  rw [List.range_succ, List.filter_append, List.map_append]
  congr 1
  by_cases c : mayD D h j (h - n - j) = true
  · simp [c]
  · simp [c]
theorem spJ_len (D out : List Int) (h n j : Nat) : (spJ D out h n j).length ≤ j := by
  unfold spJ
  rw [List.length_map]
  exact Nat.le_trans (List.length_filter_le _ _) (by simp)
theorem spL_succ (D out : List Int) (h m : Nat) : spL D out h (m + 1) = spL D out h m ++ spJ D out h (m + 1) ((h - (m + 1)) / 2 + 1) := by
  unfold spL
  rw [List.range_succ, List.flatMap_append]
  simp
theorem spL_len (D out : List Int) (h : Nat) : ∀ m, (spL D out h m).length ≤ m * (h + 1) := by
  intro m
  induction m with
  | zero => simp [spL]
  | succ m ih =>
    rw [spL_succ, List.length_append, Nat.succ_mul]
    have := spJ_len D out h (m + 1) ((h - (m + 1)) / 2 + 1)
    omega
theorem mem_spL (D out : List Int) (h : Nat) (x : Int) : x ∈ spL D out h (min D.length h) ↔ x ∈ octL D out h := by
  unfold spL octL
  rw [List.mem_flatMap, List.mem_map]
  constructor
  · rintro ⟨n, hn, hx⟩
    rw [List.mem_range] at hn
    unfold spJ at hx
    obtain ⟨a, ha, rfl⟩ := List.mem_map.1 hx
    rw [List.mem_filter, List.mem_range] at ha
    exact ⟨pr2 a (h - (n + 1) - a), (mem_LS D h _).2 ⟨a, h - (n + 1) - a, rfl, by omega, by omega, ha.2⟩, rfl⟩
  · rintro ⟨m, hm, rfl⟩
    obtain ⟨a, b, rfl, h1, h2, h3⟩ := (mem_LS D h m).1 hm
    have h4 := h3
    unfold mayD at h4
    rw [Bool.and_eq_true, decide_eq_true_eq] at h4
    refine ⟨h - a - b - 1, List.mem_range.2 (by omega), ?_⟩
    unfold spJ
    have e : h - (h - a - b - 1 + 1) - a = b := by omega
    refine List.mem_map.2 ⟨a, List.mem_filter.2 ⟨List.mem_range.2 (by omega), ?_⟩, ?_⟩
    · rw [e]; exact h3
    · rw [e]; rfl
theorem spec_ov_loop (D : List Int) (hl : D.length ≤ 8) (H : Nat) (hH : H ≤ 200) : Ev (fun k => spec_OctalValues.l0 k D (H : Int) [] 0) (OV D (H + 1), 0) := by
  have outer : ∀ (d h : Nat), h + d = H + 1 → Ev (fun k => spec_OctalValues.l0 k D (H : Int) (OV D h) (h : Int)) (OV D (H + 1), 0) := by
    intro d
    induction d with
    | zero =>
      intro h hh
      obtain rfl : h = H + 1 := by omega
      refine Ev_round ?_
      simp only [spec_OctalValues.l0]
      exact Ev_neg (by omega) (Ev.now _)
    | succ d ih =>
      intro h hh
      have nx := ih (h + 1) (by omega)
      have hOl := OV_len D h
      have eOV : OV D (h + 1) = OV D h ++ [((mexN (spL D (OV D h) h (min D.length h)) : Nat) : Int)] := by
        rw [mexN_congr (mem_spL D (OV D h) h)]
        rfl
      rw [eOV] at nx
      have fin : Ev (fun k => (spec_l03Least.f k (spL D (OV D h) h (min D.length h))).bind fun t131 => (if (OV D h).length < 70368744177664 then (spec_OctalValues.l0 k D (H : Int) (OV D h ++ [t131]) (wrap64 ((h : Int) + 1))) else none)) (OV D (H + 1), 0) := by
        have h1 := spL_len D (OV D h) h (min D.length h)
        have h2 : min D.length h * (h + 1) ≤ 8 * 201 := Nat.mul_le_mul (by omega) (by omega)
        refine Ev.bind (least_ev _ (by omega) (fun x hx => octL_range D h (by omega) x ((mem_spL D (OV D h) h x).1 hx))) (Ev_pos (by rw [hOl]; omega) ?_)
        rw [w64 (by omega) (by omega)]
        exact nx
      have mid : ∀ (e m : Nat), m + e = min D.length h → Ev (fun k => spec_OctalValues.l1 k D (H : Int) (OV D h) (h : Int) (spL D (OV D h) h m) ((m + 1 : Nat) : Int)) (OV D (H + 1), 0) := by
        intro e
        induction e with
        | zero =>
          intro m hm
          obtain rfl : m = min D.length h := by omega
          refine Ev_round ?_
          simp only [spec_OctalValues.l1]
          have fin2 : ∀ b, b = false → Ev (fun k => spec_OctalValues.j2 k D (H : Int) (OV D h) (h : Int) (spL D (OV D h) h (min D.length h)) ((min D.length h + 1 : Nat) : Int) b) (OV D (H + 1), 0) := by
            intro b hb
            refine Ev_round ?_
            simp only [spec_OctalValues.j2]
            exact Ev_neg (by simp [hb]) fin
          exact Ev_ite' (fun c => fin2 _ (by apply decide_eq_false; omega)) (fun c => fin2 _ rfl)
        | succ e ihe =>
          intro m hm
          have nx2 := ihe (m + 1) (by omega)
          rw [spL_succ] at nx2
          have hsl := spL_len D (OV D h) h m
          have him : m * (h + 1) ≤ 8 * 201 := Nat.mul_le_mul (by omega) (by omega)
          have inner : ∀ (f j : Nat), j + f = (h - (m + 1)) / 2 + 1 → Ev (fun k => spec_OctalValues.l2 k D (H : Int) (OV D h) (h : Int) (spL D (OV D h) h m ++ spJ D (OV D h) h (m + 1) j) ((m + 1 : Nat) : Int) (j : Int)) (OV D (H + 1), 0) := by
            intro f
            induction f with
            | zero =>
              intro j hj
              obtain rfl : j = (h - (m + 1)) / 2 + 1 := by omega
              refine Ev_round ?_
              simp only [spec_OctalValues.l2]
              rw [w64 (x := 2 * (((h - (m + 1)) / 2 + 1 : Nat) : Int)) (by omega) (by omega), w64 (x := (h : Int) - ((m + 1 : Nat) : Int)) (by omega) (by omega), w64 (x := ((m + 1 : Nat) : Int) + 1) (by omega) (by omega)]
              exact Ev_neg (by omega) nx2
            | succ f ihf =>
              intro j hj
              have nx3 := ihf (j + 1) (by omega)
              rw [spJ_succ, ← List.append_assoc] at nx3
              have hjl := spJ_len D (OV D h) h (m + 1) j
              have ew : wrap64 (wrap64 ((h : Int) - ((m + 1 : Nat) : Int)) - (j : Int)) = ((h - (m + 1) - j : Nat) : Int) := by
                rw [w64 (x := (h : Int) - ((m + 1 : Nat) : Int)) (by omega) (by omega), w64 (by omega) (by omega)]
                omega
              refine Ev_round ?_
              simp only [spec_OctalValues.l2]
              rw [ew, w64 (x := 2 * (j : Int)) (by omega) (by omega), w64 (x := (h : Int) - ((m + 1 : Nat) : Int)) (by omega) (by omega), w64 (x := (j : Int) + 1) (by omega) (by omega)]
              refine Ev_pos (by omega) (Ev_bind1 (may_f D hl h j (h - (m + 1) - j) (by omega) (by omega)) ?_)
              by_cases c : mayD D h j (h - (m + 1) - j) = true
              · rw [if_pos c] at nx3
                exact Ev_pos c (Ev_pos (by omega) (Ev_pos (by omega) (Ev_pos (by omega) (Ev_pos (by omega) (Ev_pos (by rw [List.length_append]; omega) nx3)))))
              · rw [if_neg c, List.append_nil] at nx3
                exact Ev_neg c nx3
          have hin := inner ((h - (m + 1)) / 2 + 1) 0 (by omega)
          rw [spJ_zero, List.append_nil] at hin
          refine Ev_round ?_
          simp only [spec_OctalValues.l1]
          refine Ev_pos (by omega) (Ev_round ?_)
          simp only [spec_OctalValues.j2]
          exact Ev_pos (by simp; omega) hin
      have hm := mid (min D.length h) 0 (by omega)
      refine Ev_round ?_
      simp only [spec_OctalValues.l0]
      exact Ev_pos (by omega) hm
  exact outer (H + 1) 0 (by omega)
def ovR (D : List Int) (h : Int) : List Int × Int := if octR D h = true then (OV D (h.toNat + 1), 0) else ([], 2)
theorem ovR_len (D : List Int) (h : Int) : (ovR D h).1.length ≤ 201 := by
  unfold ovR
  by_cases c : octR D h = true
  · obtain ⟨_, _, _, h3, h4⟩ := octR_true c
    rw [if_pos c]
    simp only [OV_len]
    omega
  · rw [if_neg c]
    simp
theorem spec_ov_ev (D : List Int) (hl : D.length ≤ 1048576) (h : Int) : Ev (fun k => spec_OctalValues.f k D h) (ovR D h) := by
  refine Ev.bind (spec_oct_ev D hl h) ?_
  unfold ovR
  by_cases c : octR D h = true
  · obtain ⟨_, _, h2, h3, h4⟩ := octR_true c
    obtain ⟨H, rfl⟩ := Int.eq_ofNat_of_zero_le h3
    rw [if_pos c]
    exact Ev_pos c (spec_ov_loop D h2 H (by omega))
  · rw [if_neg c]
    exact Ev_neg c (Ev.now _)

/-- An octal rule is drawn. -/
theorem octal_ok (bs : List Int) (hb : ∀ x ∈ bs, 0 ≤ x ∧ x ≤ 255) (hl : bs.length ≤ 4096) : ∃ l : List Int, Ev (fun k => spec_P6Octal.f k bs) l ∧ 1 ≤ l.length ∧ l.length ≤ 4 ∧ ∀ p ∈ l, 0 ≤ p ∧ p ≤ 7 := by
  have loop : ∀ (d i : Nat) (sd : Int) (l : List Int), i + d ≤ 1000 → l.length + d ≤ 4 → (∀ p ∈ l, 0 ≤ p ∧ p ≤ 7) → ∃ r : List Int, Ev (fun k => spec_P6Octal.l0 k l (d : Int) bs (i : Int) sd) r ∧ r.length = l.length + d ∧ ∀ p ∈ r, 0 ≤ p ∧ p ≤ 7 := by
    intro d
    induction d with
    | zero =>
      intro i sd l hi hll hp
      refine ⟨l, Ev_round ?_, by omega, hp⟩
      simp only [spec_P6Octal.l0]
      exact Ev_neg (by omega) (Ev.now _)
    | succ d ih =>
      intro i sd l hi hll hp
      obtain ⟨v, s', e, a, b⟩ := pick_ok bs hb hl i (by omega) sd 8 (by omega) (by omega)
      obtain ⟨r, h1, h2, h3⟩ := ih (i + 1) s' (l ++ [v]) (by omega) (by simp; omega) (fun p hm => by
        rcases List.mem_append.1 hm with hm | hm
        · exact hp p hm
        · rw [List.mem_singleton.1 hm]; omega)
      refine ⟨r, Ev_round ?_, by simp at h2; omega, h3⟩
      simp only [spec_P6Octal.l0]
      rw [e]
      simp only [Option.bind_some]
      rw [w64 (by omega) (by omega), show ((d + 1 : Nat) : Int) - 1 = (d : Int) by omega, show v % 256 = v by omega]
      exact Ev_pos (by omega) (Ev_pos (by omega) h1)
  obtain ⟨v, s1, e1, a1, b1⟩ := pick_ok bs hb hl 0 (by omega) 0 4 (by omega) (by omega)
  obtain ⟨d, rfl⟩ := Int.eq_ofNat_of_zero_le a1
  obtain ⟨r, h1, h2, h3⟩ := loop (d + 1) 1 s1 [] (by omega) (by simp; omega) (by simp)
  refine ⟨r, ?_, by simp at h2; omega, by simp at h2; omega, h3⟩
  unfold spec_P6Octal.f spec_l00From.f
  simp only [Option.bind_some]
  have e1' : spec_l00Src_pick.f bs 0 0 4 = _ := e1
  rw [e1']
  simp only [Option.bind_some]
  rw [w64 (by omega) (by omega), show (1 : Int) + (d : Int) = ((d + 1 : Nat) : Int) by omega]
  exact h1

theorem octCode_f (D : List Int) (hl : D.length ≤ 1048576) (h : Int) : impl_octalCode.f D h = some (if octR D h = true then 0 else 2) := by
  unfold impl_octalCode.f impl_within.f slices_ContainsFunc_uint8_uint8.f octR
  by_cases c0 : 1 ≤ (D.length : Int)
  · rw [if_pos c0]
    simp only [Option.bind_some]
    by_cases c1 : (D.length : Int) ≤ 8
    · rw [if_pos (by simpa using c1)]
      have e1 : decide (1 ≤ D.length ∧ D.length ≤ 8) = true := decide_eq_true (by omega)
      rw [e1, Bool.true_and]
      have e2 : (D.any fun x => decide (x > 7)) = D.any slices_ContainsFunc_uint8_uint8.bad := rfl
      rw [e2]
      by_cases c2 : D.any slices_ContainsFunc_uint8_uint8.bad = true
      · rw [if_pos c2, c2]
        rfl
      · rw [if_neg c2]
        have c2' := Bool.eq_false_iff.2 c2
        rw [c2']
        by_cases c3 : 0 ≤ h
        · rw [if_pos c3]
          simp only [Option.bind_some]
          by_cases c4 : h ≤ 200
          · rw [if_pos (by simpa using c4), decide_eq_true (p := 0 ≤ h ∧ h ≤ 200) ⟨c3, c4⟩]
            rfl
          · rw [if_neg (by simpa using c4), decide_eq_false (p := 0 ≤ h ∧ h ≤ 200) (by omega)]
            rfl
        · rw [if_neg c3, decide_eq_false (p := 0 ≤ h ∧ h ≤ 200) (by omega)]
          rfl
    · rw [if_neg (by simpa using c1), decide_eq_false (p := 1 ≤ D.length ∧ D.length ≤ 8) (by omega), Bool.false_and, Bool.and_false]
      rfl
  · rw [if_neg c0, decide_eq_false (p := 1 ≤ D.length ∧ D.length ≤ 8) (by omega), Bool.false_and, Bool.and_false]
    rfl

theorem rdC {xs : List S46} {n : Nat} (h : n < xs.length) : rd_T46 xs (n : Int) = xs[n] := by simp [rd_T46, List.getD_eq_getElem?_getD, List.getElem?_eq_getElem h]
/-- Where no two neighbours are equal, Compact leaves the list. -/
theorem compact_ev (xs : List S46) (hn : xs.length ≤ 1000000) (hd : ∀ (n : Nat) (h : n + 1 < xs.length), xs[n + 1] ≠ xs[n]) : Ev (fun k => slices_Compact_2_int64_2_int64.f k xs) xs := by
  have main : ∀ (d n : Nat), n + 1 + d = xs.length → Ev (fun k => slices_Compact_2_int64_2_int64.l0 k xs ((n + 1 : Nat) : Int)) xs := by
    intro d
    induction d with
    | zero =>
      intro n h
      refine Ev_round ?_
      simp only [slices_Compact_2_int64_2_int64.l0]
      exact Ev_neg (by omega) (Ev.now _)
    | succ d ih =>
      intro n h
      have h1 : n + 1 < xs.length := by omega
      have hne := hd n h1
      have e1 : wrap64 (((n + 1 : Nat) : Int) - 1) = (n : Int) := by rw [w64 (by omega) (by omega)]; omega
      have e2 : wrap64 (((n + 1 : Nat) : Int) + 1) = ((n + 1 + 1 : Nat) : Int) := by rw [w64 (by omega) (by omega)]; omega
      refine Ev_round ?_
      simp only [slices_Compact_2_int64_2_int64.l0]
      rw [e1, e2, rdC h1, rdC (show n < xs.length by omega)]
      refine Ev_pos (by omega) (Ev_pos (by omega) (Ev_pos (by omega) (Ev_pos (by omega) (Ev_neg ?_ (ih (n + 1) (by omega))))))
      intro hc
      rw [Bool.and_eq_true, beq_iff_eq, beq_iff_eq] at hc
      apply hne
      exact (show (⟨xs[n + 1].f0, xs[n + 1].f1⟩ : S46) = ⟨xs[n].f0, xs[n].f1⟩ by rw [hc.1, hc.2])
  by_cases c : (xs.length : Int) < 2
  · exact Ev_pos c (Ev.now _)
  · exact Ev_neg c (main (xs.length - 1) 0 (by omega))

theorem bit_one (d : Int) (h0 : 0 ≤ d) (h7 : d ≤ 7) : (Go.bits .and .u8 d 1 = 1 ↔ Go.bits .and .u8 d 1 ≠ 0) ∧ (Go.bits .and .u8 d 2 = 2 ↔ Go.bits .and .u8 d 2 ≠ 0) ∧ (Go.bits .and .u8 d 4 = 4 ↔ Go.bits .and .u8 d 4 ≠ 0) := by
  obtain ⟨n, rfl⟩ := Int.eq_ofNat_of_zero_le h0
  match n, (show n < 8 by omega) with
  | 0, _ => decide
  | 1, _ => decide
  | 2, _ => decide
  | 3, _ => decide
  | 4, _ => decide
  | 5, _ => decide
  | 6, _ => decide
  | 7, _ => decide
/-! What the program gathers, ahead of its sort. -/
def headI (D : List Int) (h i : Nat) : List S46 := if (Go.bits .and .u8 (rd D (i : Int)) 1 = 1 ∧ h - (i + 1) = 0) ∨ (Go.bits .and .u8 (rd D (i : Int)) 2 = 2 ∧ 0 < h - (i + 1)) then [pr2 0 (h - (i + 1))] else []
def tailJ (D : List Int) (h i j : Nat) : List S46 := if Go.bits .and .u8 (rd D (i : Int)) 4 = 4 then (List.range' 1 j).map (fun a => pr2 a (h - (i + 1) - a)) else []
def rowI (D : List Int) (h i : Nat) : List S46 := if h < i + 1 then [] else headI D h i ++ tailJ D h i ((h - (i + 1)) / 2)
def MI (D : List Int) (h m : Nat) : List S46 := (List.range m).flatMap (rowI D h)
theorem MI_succ (D : List Int) (h m : Nat) : MI D h (m + 1) = MI D h m ++ rowI D h m := by
  unfold MI
  rw [List.range_succ, List.flatMap_append]
  simp
theorem MI_stop (D : List Int) (h i : Nat) (hi : h < i + 1) : ∀ d, MI D h (i + d) = MI D h i := by
  intro d
  induction d with
  | zero => rfl
  | succ d ih =>
    rw [← Nat.add_assoc, MI_succ, ih]
    unfold rowI
    rw [if_pos (by omega), List.append_nil]
theorem headI_len (D : List Int) (h i : Nat) : (headI D h i).length ≤ 1 := by
  unfold headI
  split <;> simp
theorem tailJ_len (D : List Int) (h i j : Nat) : (tailJ D h i j).length ≤ j := by
  unfold tailJ
  split <;> simp
theorem MI_len (D : List Int) (h : Nat) : ∀ m, (MI D h m).length ≤ m * (h + 1) := by
  intro m
  induction m with
  | zero => simp [MI]
  | succ m ih =>
    rw [MI_succ, List.length_append, Nat.succ_mul]
    unfold rowI
    by_cases c : h < m + 1
    · rw [if_pos c]
      simp only [List.length_nil]
      omega
    · rw [if_neg c, List.length_append]
      have h1 := headI_len D h m
      have h2 := tailJ_len D h m ((h - (m + 1)) / 2)
      omega
/-- Pairs, by their first and then by their second number. -/
def ltS (x y : S46) : Prop := x.f0 < y.f0 ∨ (x.f0 = y.f0 ∧ x.f1 < y.f1)
theorem eq_of_lt {α : Type} (lt : α → α → Prop) (irr : ∀ x, ¬ lt x x) (asy : ∀ x y, lt x y → ¬ lt y x) : ∀ l1 l2 : List α, l1.Pairwise lt → l2.Pairwise lt → (∀ x, x ∈ l1 ↔ x ∈ l2) → l1 = l2 := by
  intro l1
  induction l1 with
  | nil =>
    intro l2 _ _ h
    cases l2 with
    | nil => rfl
    | cons b t => exact absurd ((h b).2 (List.mem_cons_self ..)) (by simp)
  | cons a s ih =>
    intro l2 h1 h2 h
    cases l2 with
    | nil => exact absurd ((h a).1 (List.mem_cons_self ..)) (by simp)
    | cons b t =>
      rw [List.pairwise_cons] at h1 h2
      have hab : a = b := by
        rcases List.mem_cons.1 ((h a).1 (List.mem_cons_self ..)) with e | e
        · exact e
        · rcases List.mem_cons.1 ((h b).2 (List.mem_cons_self ..)) with e2 | e2
          · exact e2.symm
          · exact absurd (h1.1 b e2) (asy _ _ (h2.1 a e))
      subst hab
      rw [ih t h1.2 h2.2 (fun x => ?_)]
      constructor
      · intro hx
        rcases List.mem_cons.1 ((h x).1 (List.mem_cons_of_mem _ hx)) with e | e
        · exact absurd (h1.1 x hx) (e ▸ irr _)
        · exact e
      · intro hx
        rcases List.mem_cons.1 ((h x).2 (List.mem_cons_of_mem _ hx)) with e | e
        · exact absurd (h2.1 x hx) (e ▸ irr _)
        · exact e
theorem LS_rise (D : List Int) (h m : Nat) : (LS D h m).Pairwise ltS := by
  unfold LS
  rw [List.pairwise_flatMap]
  constructor
  · intro a _
    unfold rowSf rowSj
    rw [List.pairwise_map]
    refine List.Pairwise.filter _ (List.Pairwise.imp ?_ (List.pairwise_lt_range' ..))
    intro x y hxy
    exact .inr ⟨rfl, by unfold pr2; simp only; omega⟩
  · refine List.Pairwise.imp ?_ List.pairwise_lt_range
    intro a b hab x hx y hy
    unfold rowSf rowSj at hx hy
    obtain ⟨_, _, rfl⟩ := List.mem_map.1 hx
    obtain ⟨_, _, rfl⟩ := List.mem_map.1 hy
    exact .inl (by unfold pr2; simp only; omega)
theorem mem_rowI (D : List Int) (h i : Nat) (x : S46) : x ∈ rowI D h i ↔ ∃ a b : Nat, x = pr2 a b ∧ a ≤ b ∧ a + b + (i + 1) = h ∧ ((a = 0 ∧ ((Go.bits .and .u8 (rd D (i : Int)) 1 = 1 ∧ b = 0) ∨ (Go.bits .and .u8 (rd D (i : Int)) 2 = 2 ∧ 0 < b))) ∨ (1 ≤ a ∧ Go.bits .and .u8 (rd D (i : Int)) 4 = 4)) := by
  unfold rowI headI tailJ
  by_cases c : h < i + 1
  · rw [if_pos c]
    constructor
    · intro hx; simp at hx
    · rintro ⟨a, b, _, _, h2, _⟩; omega
  · rw [if_neg c, List.mem_append]
    constructor
    · rintro (hx | hx)
      · split at hx
        · rename_i q
          rw [List.mem_singleton] at hx
          exact ⟨0, h - (i + 1), hx, by omega, by omega, .inl ⟨rfl, q⟩⟩
        · simp at hx
      · split at hx
        · rename_i q
          obtain ⟨a, ha, rfl⟩ := List.mem_map.1 hx
          rw [List.mem_range'_1] at ha
          exact ⟨a, h - (i + 1) - a, rfl, by omega, by omega, .inr ⟨ha.1, q⟩⟩
        · simp at hx
    · rintro ⟨a, b, rfl, h1, h2, (⟨rfl, q⟩ | ⟨h3, q⟩)⟩
      · have e : b = h - (i + 1) := by omega
        subst e
        left
        rw [if_pos q]
        exact List.mem_singleton.2 rfl
      · right
        rw [if_pos q]
        refine List.mem_map.2 ⟨a, List.mem_range'_1.2 (by omega), ?_⟩
        rw [show h - (i + 1) - a = b by omega]
theorem mem_MI (D : List Int) (h0 : ∀ x ∈ D, 0 ≤ x ∧ x ≤ 7) (h : Nat) (x : S46) : x ∈ MI D h D.length ↔ x ∈ LS D h (h + 1) := by
  rw [mem_LS]
  unfold MI
  rw [List.mem_flatMap]
  have hb : ∀ i : Nat, i < D.length → _ := fun i hi => bit_one (rd D (i : Int)) (h0 _ (rd_mem (by omega) (by omega))).1 (h0 _ (rd_mem (by omega) (by omega))).2
  constructor
  · rintro ⟨i, hi, hx⟩
    have hi := List.mem_range.1 hi
    obtain ⟨a, b, rfl, h1, h2, h3⟩ := (mem_rowI D h i x).1 hx
    obtain ⟨q1, q2, q4⟩ := hb i hi
    refine ⟨a, b, rfl, h1, by omega, ?_⟩
    unfold mayD bitD
    have e1 : h - a - b = i + 1 := by omega
    rw [e1, decide_eq_true (p := 1 ≤ i + 1 ∧ i + 1 ≤ D.length) (by omega), Bool.true_and, show i + 1 - 1 = i by omega]
    rcases h3 with ⟨ha, (⟨q, hb0⟩ | ⟨q, hb0⟩)⟩ | ⟨ha, q⟩
    · rw [if_pos hb0]
      exact decide_eq_true (q1.1 q)
    · rw [if_neg (by omega), if_pos ha]
      exact decide_eq_true (q2.1 q)
    · rw [if_neg (by omega), if_neg (by omega)]
      exact decide_eq_true (q4.1 q)
  · rintro ⟨a, b, rfl, h1, h2, h3⟩
    unfold mayD bitD at h3
    rw [Bool.and_eq_true, decide_eq_true_eq] at h3
    obtain ⟨⟨g1, g2⟩, g3⟩ := h3
    refine ⟨h - a - b - 1, List.mem_range.2 (by omega), (mem_rowI D h _ _).2 ⟨a, b, rfl, h1, by omega, ?_⟩⟩
    obtain ⟨q1, q2, q4⟩ := hb (h - a - b - 1) (by omega)
    by_cases cb : b = 0
    · rw [if_pos cb] at g3
      exact .inl ⟨by omega, .inl ⟨q1.2 (of_decide_eq_true g3), cb⟩⟩
    · rw [if_neg cb] at g3
      by_cases ca : a = 0
      · rw [if_pos ca] at g3
        exact .inl ⟨ca, .inr ⟨q2.2 (of_decide_eq_true g3), by omega⟩⟩
      · rw [if_neg ca] at g3
        exact .inr ⟨by omega, q4.2 (of_decide_eq_true g3)⟩
theorem MI_apart (D : List Int) (h m : Nat) : (MI D h m).Pairwise (· ≠ ·) := by
  unfold MI
  rw [List.pairwise_flatMap]
  constructor
  · intro i _
    unfold rowI
    by_cases c : h < i + 1
    · rw [if_pos c]; exact List.Pairwise.nil
    · rw [if_neg c, List.pairwise_append]
      refine ⟨?_, ?_, ?_⟩
      · unfold headI
        split
        · exact List.pairwise_singleton _ _
        · exact List.Pairwise.nil
      · unfold tailJ
        split
        · rw [List.pairwise_map]
          refine List.Pairwise.imp ?_ (List.pairwise_lt_range' ..)
          intro a b hab e
          have := congrArg S46.f0 e
          unfold pr2 at this
          simp only at this
          omega
        · exact List.Pairwise.nil
      · intro x hx y hy e
        unfold headI at hx
        unfold tailJ at hy
        split at hx
        · split at hy
          · rw [List.mem_singleton] at hx
            obtain ⟨a, ha, rfl⟩ := List.mem_map.1 hy
            rw [List.mem_range'_1] at ha
            rw [hx] at e
            have := congrArg S46.f0 e
            unfold pr2 at this
            simp only at this
            omega
          · simp at hy
        · simp at hx
  · refine List.Pairwise.imp ?_ List.pairwise_lt_range
    intro i j hij x hx y hy e
    obtain ⟨a, b, rfl, _, h2, _⟩ := (mem_rowI D h i x).1 hx
    obtain ⟨c, d, rfl, _, h4, _⟩ := (mem_rowI D h j y).1 hy
    have e0 := congrArg S46.f0 e
    have e1 := congrArg S46.f1 e
    unfold pr2 at e0 e1
    simp only at e0 e1
    omega
def toP (x : S46) : Int × Int := (x.f0, x.f1)
/-- Sorted, what the program gathers is the reference's list. -/
theorem sorted_MI (D : List Int) (h0 : ∀ x ∈ D, 0 ≤ x ∧ x ≤ 7) (h : Nat) : (Go.Proofs.Yteinllalhiflcaa.Sf.sorted ((MI D h D.length).map toP)).map (fun p => (⟨p.1, p.2⟩ : S46)) = LS D h (h + 1) := by
  have hS : Go.Proofs.Yteinllalhiflcaa.Sf.sorted ((MI D h D.length).map toP) = (LS D h (h + 1)).map toP := by
    refine eq_of_lt (fun p q : Int × Int => p.1 < q.1 ∨ (p.1 = q.1 ∧ p.2 < q.2)) (fun x hx => by omega) (fun x y hx hy => by omega) _ _ ?_ ?_ ?_
    · have hp : ((MI D h D.length).map toP).Pairwise (· ≠ ·) := by
        rw [List.pairwise_map]
        refine List.Pairwise.imp ?_ (MI_apart D h D.length)
        intro x y hxy e
        apply hxy
        have e0 := congrArg Prod.fst e
        have e1 := congrArg Prod.snd e
        exact (show (⟨x.f0, x.f1⟩ : S46) = ⟨y.f0, y.f1⟩ by rw [show x.f0 = y.f0 from e0, show x.f1 = y.f1 from e1])
      have hperm := List.mergeSort_perm ((MI D h D.length).map toP) (fun x y => !(Go.Proofs.ltOf Go.Proofs.Yteinllalhiflcaa.Sf.cf) y x)
      have hne : (Go.Proofs.Yteinllalhiflcaa.Sf.sorted ((MI D h D.length).map toP)).Pairwise (· ≠ ·) := hperm.symm.pairwise hp (fun q => Ne.symm q)
      have hle : (Go.Proofs.Yteinllalhiflcaa.Sf.sorted ((MI D h D.length).map toP)).Pairwise (fun x y => (!(Go.Proofs.ltOf Go.Proofs.Yteinllalhiflcaa.Sf.cf) y x) = true) := by
        refine List.pairwise_mergeSort (le := fun x y => !(Go.Proofs.ltOf Go.Proofs.Yteinllalhiflcaa.Sf.cf) y x) ?_ ?_ _
        · intro a b c h1 h2
          rw [Bool.not_eq_true', Go.Proofs.Yteinllalhiflcaa.Sf.cf_lt, decide_eq_false_iff_not] at *
          omega
        · intro a b
          rw [Go.Proofs.Yteinllalhiflcaa.Sf.cf_lt, Go.Proofs.Yteinllalhiflcaa.Sf.cf_lt]
          simp
          omega
      refine List.Pairwise.imp₂ ?_ hle hne
      intro p q h1 h2
      rw [Bool.not_eq_true', Go.Proofs.Yteinllalhiflcaa.Sf.cf_lt, decide_eq_false_iff_not] at h1
      have : ¬ (p.1 = q.1 ∧ p.2 = q.2) := fun e => h2 (Prod.ext e.1 e.2)
      omega
    · rw [List.pairwise_map]
      exact LS_rise D h (h + 1)
    · intro x
      have : x ∈ Go.Proofs.Yteinllalhiflcaa.Sf.sorted ((MI D h D.length).map toP) ↔ x ∈ (MI D h D.length).map toP := List.mem_mergeSort
      rw [this, List.mem_map, List.mem_map]
      constructor
      · rintro ⟨y, hy, rfl⟩
        exact ⟨y, (mem_MI D h0 h y).1 hy, rfl⟩
      · rintro ⟨y, hy, rfl⟩
        exact ⟨y, (mem_MI D h0 h y).2 hy, rfl⟩
  rw [hS, List.map_map]
  have e : ((fun p : Int × Int => (⟨p.1, p.2⟩ : S46)) ∘ toP) = id := rfl
  rw [e, List.map_id]
theorem impl_left_ev (D : List Int) (h0 : ∀ x ∈ D, 0 ≤ x ∧ x ≤ 7) (hl : D.length ≤ 8) (h : Nat) (hh : h ≤ 200) : Ev (fun k => impl_octalMoves.f k D (h : Int)) (LS D h (h + 1)) := by
  have hlen := MI_len D h D.length
  have hle2 : D.length * (h + 1) ≤ 8 * 201 := Nat.mul_le_mul hl (by omega)
  have fin : ∀ m, MI D h m = MI D h D.length → Ev (fun k => ((slices_SortFunc_2_int64_2_int64.f (MI D h m) true).bind fun t153 => ((slices_Compact_2_int64_2_int64.f k t153).bind fun t154 => (some t154)))) (LS D h (h + 1)) := by
    intro m hm
    rw [hm]
    refine Ev_bind1 (a := LS D h (h + 1)) ?_ (Ev.bind (compact_ev _ ?_ ?_) (Ev.now _))
    · unfold slices_SortFunc_2_int64_2_int64.f
      rw [if_pos (by omega)]
      exact congrArg some (sorted_MI D h0 h)
    · have := LS_len D h (h + 1)
      have h3 : (h + 1) * h ≤ 201 * 200 := Nat.mul_le_mul (by omega) hh
      omega
    · intro n hn e
      have := List.pairwise_iff_getElem.1 (LS_rise D h (h + 1)) n (n + 1) (by omega) hn (by omega)
      rw [e] at this
      unfold ltS at this
      omega
  have outer : ∀ (d i : Nat), i + d = D.length → Ev (fun k => impl_octalMoves.l0 k (h : Int) (MI D h i) D (D.length : Int) (i : Int)) (LS D h (h + 1)) := by
    intro d
    induction d with
    | zero =>
      intro i hi
      refine Ev_round ?_
      simp only [impl_octalMoves.l0]
      exact Ev_neg (by omega) (fin i (by rw [show i = D.length by omega]))
    | succ d ih =>
      intro i hi
      have hlt : i < D.length := by omega
      have nx := ih (i + 1) (by omega)
      rw [MI_succ] at nx
      have hml := MI_len D h i
      have him : i * (h + 1) ≤ 8 * 201 := Nat.mul_le_mul (by omega) (by omega)
      have ew : wrap64 ((wrap64 ((h : Int) - (i : Int))) - 1) = (h : Int) - (i : Int) - 1 := by rw [w64 (x := (h : Int) - (i : Int)) (by omega) (by omega), w64 (by omega) (by omega)]
      refine Ev_round ?_
      simp only [impl_octalMoves.l0]
      rw [ew]
      refine Ev_pos (by omega) (Ev_pos (by omega) (Ev_pos (by omega) ?_))
      by_cases c : h < i + 1
      · refine Ev_pos (by omega) (fin i ?_)
        have := MI_stop D h i c (D.length - i)
        rw [show i + (D.length - i) = D.length by omega] at this
        exact this.symm
      · refine Ev_neg (by omega) ?_
        obtain ⟨L, hL⟩ : ∃ L : Nat, L = h - (i + 1) := ⟨_, rfl⟩
        have eL : (h : Int) - (i : Int) - 1 = (L : Int) := by omega
        rw [eL]
        unfold rowI at nx
        rw [if_neg c, ← List.append_assoc] at nx
        have hhl := headI_len D h i
        have inner : ∀ (e j : Nat), j + e = L / 2 → Ev (fun k => impl_octalMoves.l1 k (h : Int) (MI D h i ++ headI D h i ++ tailJ D h i j) (rd D (i : Int)) (L : Int) ((j + 1 : Nat) : Int) D (D.length : Int) (i : Int)) (LS D h (h + 1)) := by
          intro e
          induction e with
          | zero =>
            intro j hj
            obtain rfl : j = L / 2 := by omega
            refine Ev_round ?_
            simp only [impl_octalMoves.l1]
            rw [w64 (x := 2 * ((L / 2 + 1 : Nat) : Int)) (by omega) (by omega), w64 (x := (i : Int) + 1) (by omega) (by omega)]
            rw [← hL] at nx
            refine Ev_ite' (fun _ => Ev_neg (by omega) nx) (fun _ => nx)
          | succ e ihe =>
            intro j hj
            have htl := tailJ_len D h i j
            refine Ev_round ?_
            simp only [impl_octalMoves.l1]
            rw [w64 (x := 2 * ((j + 1 : Nat) : Int)) (by omega) (by omega), w64 (x := (i : Int) + 1) (by omega) (by omega), w64 (x := (L : Int) - ((j + 1 : Nat) : Int)) (by omega) (by omega), w64 (x := ((j + 1 : Nat) : Int) + 1) (by omega) (by omega)]
            refine Ev_ite' (fun c4 => ?_) (fun c4 => ?_)
            · have nx2 := ihe (j + 1) (by omega)
              have et : tailJ D h i (j + 1) = tailJ D h i j ++ [(⟨((j + 1 : Nat) : Int), (L : Int) - ((j + 1 : Nat) : Int)⟩ : S46)] := by
                unfold tailJ
                rw [if_pos c4, if_pos c4, List.range'_concat, List.map_append, List.map_cons, List.map_nil]
                congr 2
                unfold pr2
                rw [show 1 + 1 * j = j + 1 by omega]
                congr 1
                omega
              rw [et, ← List.append_assoc] at nx2
              exact Ev_pos (by omega) (Ev_pos (by rw [List.length_append, List.length_append]; omega) nx2)
            · rw [← hL] at nx
              have e1 : ∀ j', tailJ D h i j' = [] := fun j' => by unfold tailJ; rw [if_neg c4]
              rw [e1] at nx
              rw [e1]
              exact nx
        have hin := inner (L / 2) 0 (by omega)
        have e0 : tailJ D h i 0 = [] := by unfold tailJ; split <;> simp
        rw [e0, List.append_nil] at hin
        have J2 : Ev (fun k => impl_octalMoves.j2 k (h : Int) (MI D h i ++ headI D h i) (rd D (i : Int)) (L : Int) D (D.length : Int) (i : Int)) (LS D h (h + 1)) := by
          refine Ev_round ?_
          simp only [impl_octalMoves.j2]
          exact hin
        have J1 : ∀ b : Bool, (b = true ↔ (Go.bits .and .u8 (rd D (i : Int)) 1 = 1 ∧ h - (i + 1) = 0) ∨ (Go.bits .and .u8 (rd D (i : Int)) 2 = 2 ∧ 0 < h - (i + 1))) → Ev (fun k => impl_octalMoves.j1 k (h : Int) (MI D h i) (rd D (i : Int)) (L : Int) D (D.length : Int) (i : Int) b) (LS D h (h + 1)) := by
          intro b hb
          refine Ev_round ?_
          simp only [impl_octalMoves.j1]
          by_cases cb : b = true
          · have eh : headI D h i = [(⟨0, (L : Int)⟩ : S46)] := by
              unfold headI
              rw [if_pos (hb.1 cb), ← hL]
              rfl
            rw [eh] at J2
            exact Ev_pos cb (Ev_pos (by omega) J2)
          · have eh : headI D h i = [] := by
              unfold headI
              rw [if_neg (fun q => cb (hb.2 q))]
            rw [eh, List.append_nil] at J2
            exact Ev_neg cb J2
        refine Ev_ite' (fun c1 => ?_) (fun c1 => ?_)
        · refine Ev_ite' (fun c2 => J1 true ⟨fun _ => .inl ⟨c1, by omega⟩, fun _ => rfl⟩) (fun c2 => ?_)
          refine Ev_ite' (fun c3 => J1 _ ?_) (fun c3 => J1 false ?_)
          · rw [decide_eq_true_eq]
            constructor
            · intro q; exact .inr ⟨c3, by omega⟩
            · rintro (⟨_, q⟩ | ⟨_, q⟩) <;> omega
          · constructor
            · intro q; cases q
            · rintro (⟨_, q⟩ | ⟨q, _⟩)
              · omega
              · exact absurd q c3
        · refine Ev_ite' (fun c3 => J1 _ ?_) (fun c3 => J1 false ?_)
          · rw [decide_eq_true_eq]
            constructor
            · intro q; exact .inr ⟨c3, by omega⟩
            · rintro (⟨q, _⟩ | ⟨_, q⟩)
              · exact absurd q c1
              · omega
          · constructor
            · intro q; cases q
            · rintro (⟨q, _⟩ | ⟨q, _⟩)
              · exact absurd q c1
              · exact absurd q c3
  have := outer D.length 0 (by omega)
  exact this

theorem impl_om_ev (D : List Int) (hl : D.length ≤ 1048576) (h0 : ∀ x ∈ D, 0 ≤ x) (h : Int) : Ev (fun k => impl_OctalMoves.f k D h) (omR D h) := by
  refine Ev_bind1 (octCode_f D hl h) ?_
  unfold omR
  by_cases c : octR D h = true
  · obtain ⟨h1, _, h2, h3, h4⟩ := octR_true c
    obtain ⟨H, rfl⟩ := Int.eq_ofNat_of_zero_le h3
    rw [if_pos c, if_pos c]
    exact Ev_pos rfl (Ev.bind (impl_left_ev D (fun x hx => ⟨h0 x hx, h1 x hx⟩) h2 H (by omega)) (Ev.now _))
  · rw [if_neg c, if_neg c]
    exact Ev_neg (by decide) (Ev.now _)

theorem index_false_ev (fl : List Bool) (n : Nat) (hn : n < fl.length) (hl : fl.length ≤ 9223372036854775806) (h1 : fl[n] = false) (h2 : ∀ m (hm : m < n), fl[m] = true) :
    Ev (fun k => slices_Index_bool_bool.f k fl false) (n : Int) := by
  have main : ∀ (d m : Nat), m + d = n → Ev (fun k => slices_Index_bool_bool.l0 k fl false fl.length (m : Int)) (n : Int) := by
    intro d
    induction d with
    | zero =>
      intro m hm
      obtain rfl : m = n := by omega
      refine Ev_round ?_
      simp only [slices_Index_bool_bool.l0]
      refine Ev_pos (by omega) (Ev_pos (by omega) (Ev_pos (by omega) (Ev_pos ?_ (Ev.now _))))
      simp [rdOf, List.getD_eq_getElem?_getD, List.getElem?_eq_getElem hn, h1]
    | succ d ih =>
      intro m hm
      refine Ev_round ?_
      simp only [slices_Index_bool_bool.l0]
      refine Ev_pos (by omega) (Ev_pos (by omega) (Ev_pos (by omega) (Ev_neg ?_ ?_)))
      · simp [rdOf, List.getD_eq_getElem?_getD, List.getElem?_eq_getElem (show m < fl.length by omega), h2 m (by omega)]
      · rw [w64 (by omega) (by omega)]
        exact ih (m + 1) (by omega)
  exact main n 0 (by omega)

theorem mex_index (l : List Int) : (mexN l < (flags (l.length + 1) l).length) ∧ (∀ h, (flags (l.length + 1) l)[mexN l]'h = false) ∧ ∀ m (hm : m < mexN l) h, (flags (l.length + 1) l)[m]'h = true := by
  have hm := mexN_is l
  have hle := mexN_le l
  refine ⟨by rw [flags_length]; omega, fun h => ?_, fun m hlt h => ?_⟩
  · rw [flags_get]; simp [hm.1]
  · rw [flags_get]; simp [hm.2 m hlt]
theorem impl_mex_ev (l : List Int) (hl : l.length ≤ 140737488355327) (hr : ∀ x ∈ l, 0 ≤ x ∧ x ≤ 65535) : Ev (fun k => impl_mex.f k l) ((mexN l : Nat) : Int) := by
  have main : ∀ (d n : Nat), n + d = l.length → Ev (fun k => impl_mex.l0 k (flags (l.length + 1) (l.take n)) l l.length (n : Int)) ((mexN l : Nat) : Int) := by
    intro d
    induction d with
    | zero =>
      intro n h
      obtain rfl : n = l.length := by omega
      refine Ev_round ?_
      simp only [impl_mex.l0]
      refine Ev_neg (by omega) (Ev.bind ?_ (Ev.now _))
      rw [List.take_length]
      obtain ⟨a, b, c⟩ := mex_index l
      exact index_false_ev _ _ a (by rw [flags_length]; omega) (b a) (fun m hm => c m hm (by omega))
    | succ d ih =>
      intro n h
      have hn : n < l.length := by omega
      have hx := hr _ (List.getElem_mem hn)
      have ht : l.take (n + 1) = l.take n ++ [l[n]] := by rw [List.take_succ_eq_append_getElem hn]
      refine Ev_round ?_
      simp only [impl_mex.l0]
      refine Ev_pos (by omega) (Ev_pos (by omega) (Ev_pos (by omega) ?_))
      rw [rd_nat hn, w64 (by omega) (by omega), w64 (by omega) (by omega), flags_length]
      have nx := ih (n + 1) (by omega)
      rw [ht] at nx
      by_cases c : l[n] < ((l.length + 1 : Nat) : Int)
      · refine Ev_pos c (Ev_pos (by omega) (Ev_pos c ?_))
        rw [flags_set _ _ _ (by omega), Int.toNat_of_nonneg hx.1]
        exact nx
      · refine Ev_neg c ?_
        rw [flags_out _ _ _ (by omega)] at nx
        exact nx
  unfold impl_mex.f
  rw [w64 (by omega) (by omega)]
  refine Ev_pos (by omega) (Ev_pos (by omega) ?_)
  have := main l.length 0 (by omega)
  rw [List.take_zero, flags_nil] at this
  exact this

theorem impl_ov_loop (D : List Int) (h0 : ∀ x ∈ D, 0 ≤ x ∧ x ≤ 7) (hl : D.length ≤ 8) (H : Nat) (hH : H ≤ 200) : Ev (fun k => impl_OctalValues.l0 k D [] ((H + 1 : Nat) : Int) 0) (OV D (H + 1), 0) := by
  have outer : ∀ (d h : Nat), h + d = H + 1 → Ev (fun k => impl_OctalValues.l0 k D (OV D h) ((H + 1 : Nat) : Int) (h : Int)) (OV D (H + 1), 0) := by
    intro d
    induction d with
    | zero =>
      intro h hh
      obtain rfl : h = H + 1 := by omega
      refine Ev_round ?_
      simp only [impl_OctalValues.l0]
      exact Ev_neg (by omega) (Ev.now _)
    | succ d ih =>
      intro h hh
      have nx := ih (h + 1) (by omega)
      have hOl := OV_len D h
      have hll := octL_len D (OV D h) h (by omega)
      have hml := mexN_le (octL D (OV D h) h)
      have hM : (LS D h (h + 1)).length ≤ 40200 := by unfold octL at hll; rwa [List.length_map] at hll
      have loop : ∀ (e n : Nat), n + e = (LS D h (h + 1)).length → Ev (fun k => impl_OctalValues.l1 k D (OV D h) (((LS D h (h + 1)).take n).map fun m => X (rd (OV D h) m.f0) (rd (OV D h) m.f1)) ((H + 1 : Nat) : Int) (h : Int) (LS D h (h + 1)) ((LS D h (h + 1)).length : Int) (n : Int)) (OV D (H + 1), 0) := by
        intro e
        induction e with
        | zero =>
          intro n hn
          rw [List.take_of_length_le (by omega)]
          refine Ev_round ?_
          simp only [impl_OctalValues.l1]
          refine Ev_neg (by omega) ?_
          refine Ev.bind (impl_mex_ev (octL D (OV D h) h) (by omega) (octL_range D h (by omega))) (Ev_pos (by rw [hOl]; omega) ?_)
          rw [w64 (by omega) (by omega), wu16 (by omega) (by omega)]
          exact nx
        | succ e ihe =>
          intro n hn
          have hlt : n < (LS D h (h + 1)).length := by omega
          have nx2 := ihe (n + 1) (by omega)
          rw [List.take_succ_eq_append_getElem hlt, List.map_append] at nx2
          have er : rd_T46 (LS D h (h + 1)) (n : Int) = (LS D h (h + 1))[n] := by simp [rd_T46, List.getD_eq_getElem?_getD, List.getElem?_eq_getElem hlt]
          obtain ⟨a, b, hab, h1, h2, _⟩ := (mem_LS D h _).1 (List.getElem_mem hlt)
          have e0 : ((LS D h (h + 1))[n]).f0 = (a : Int) := by rw [hab]; rfl
          have e1 : ((LS D h (h + 1))[n]).f1 = (b : Int) := by rw [hab]; rfl
          simp only [List.map_cons, List.map_nil, e0, e1] at nx2
          have hlen : (((LS D h (h + 1)).take n).map fun m => X (rd (OV D h) m.f0) (rd (OV D h) m.f1)).length ≤ n := by
            rw [List.length_map, List.length_take]; omega
          refine Ev_round ?_
          simp only [impl_OctalValues.l1]
          rw [er, e0, e1, w64 (x := (n : Int) + 1) (by omega) (by omega)]
          exact Ev_pos (by omega) (Ev_pos (by omega) (Ev_pos (by omega) (Ev_pos (by omega) (Ev_pos (by omega) (Ev_pos (by omega) (Ev_pos (by omega) (Ev_pos (by omega) nx2)))))))
      have hin := loop _ 0 (Nat.zero_add _)
      rw [List.take_zero, List.map_nil] at hin
      refine Ev_round ?_
      simp only [impl_OctalValues.l0]
      exact Ev_pos (by omega) (Ev.bind (impl_left_ev D h0 hl h (by omega)) hin)
  exact outer (H + 1) 0 (by omega)
theorem impl_ov_ev (D : List Int) (hl : D.length ≤ 1048576) (h0 : ∀ x ∈ D, 0 ≤ x) (h : Int) : Ev (fun k => impl_OctalValues.f k D h) (ovR D h) := by
  refine Ev_bind1 (octCode_f D hl h) ?_
  unfold ovR
  by_cases c : octR D h = true
  · obtain ⟨h1, _, h2, h3, h4⟩ := octR_true c
    obtain ⟨H, rfl⟩ := Int.eq_ofNat_of_zero_le h3
    rw [if_pos c, if_pos c, w64 (by omega) (by omega)]
    exact Ev_pos rfl (impl_ov_loop D (fun x hx => ⟨h0 x hx, h1 x hx⟩) h2 H (by omega))
  · rw [if_neg c, if_neg c]
    exact Ev_neg (by decide) (Ev.now _)

theorem pick1_ok (bs : List Int) (hb : ∀ x ∈ bs, 0 ≤ x ∧ x ≤ 255) (hl : bs.length ≤ 4096) (n : Int) (h1 : 1 < n) (h2 : n ≤ 200) : ∃ v, spec_P6Pick.f bs n = some v ∧ 0 ≤ v ∧ v < n := by
  obtain ⟨v, s1, e1, a1, b1⟩ := pick_ok bs hb hl 0 (by omega) 0 n h1 h2
  refine ⟨v, ?_, a1, b1⟩
  unfold spec_P6Pick.f spec_l00From.f
  simp only [Option.bind_some]
  have e1' : spec_l00Src_pick.f bs 0 0 n = _ := e1
  rw [e1']
  rfl
theorem OV_pre (D : List Int) (n a : Nat) (h : a < n) : rd (OV D (n + 1)) (a : Int) = rd (OV D n) (a : Int) := by
  have := OV_len D n
  show rd (OV D n ++ _) (a : Int) = _
  unfold rd
  simp [List.getD_eq_getElem?_getD, List.getElem?_append_left (show a < (OV D n).length by omega)]
theorem OV_last (D : List Int) (n : Nat) : rd (OV D (n + 1)) (n : Int) = ((mexN (octL D (OV D n) n) : Nat) : Int) := by
  have := OV_len D n
  show rd (OV D n ++ _) (n : Int) = _
  unfold rd
  rw [List.getD_eq_getElem?_getD, Int.toNat_natCast, List.getElem?_append_right (by omega), this]
  simp
theorem octL_pre (D : List Int) (n : Nat) : octL D (OV D (n + 1)) n = octL D (OV D n) n := by
  unfold octL
  refine List.map_congr_left (fun m hm => ?_)
  obtain ⟨a, b, rfl, h1, h2, _⟩ := (mem_LS D n m).1 hm
  show X (rd _ (a : Int)) (rd _ (b : Int)) = X (rd _ (a : Int)) (rd _ (b : Int))
  rw [OV_pre D n a (by omega), OV_pre D n b (by omega)]
def orT (T d : Int) : Int := Go.bits .or .u8 d T
theorem orT_all : ∀ d : Fin 8, ∀ t : Fin 8, (0 ≤ orT (t.val : Int) (d.val : Int) ∧ orT (t.val : Int) (d.val : Int) ≤ 7) ∧ (Go.bits .and .u8 (d.val : Int) 1 ≠ 0 → Go.bits .and .u8 (orT (t.val : Int) (d.val : Int)) 1 ≠ 0) ∧ (Go.bits .and .u8 (d.val : Int) 2 ≠ 0 → Go.bits .and .u8 (orT (t.val : Int) (d.val : Int)) 2 ≠ 0) ∧ (Go.bits .and .u8 (d.val : Int) 4 ≠ 0 → Go.bits .and .u8 (orT (t.val : Int) (d.val : Int)) 4 ≠ 0) := by decide +kernel
theorem orT_ok (T d : Int) (hT : 0 ≤ T ∧ T ≤ 7) (hd : 0 ≤ d ∧ d ≤ 7) : (0 ≤ orT T d ∧ orT T d ≤ 7) ∧ (Go.bits .and .u8 d 1 ≠ 0 → Go.bits .and .u8 (orT T d) 1 ≠ 0) ∧ (Go.bits .and .u8 d 2 ≠ 0 → Go.bits .and .u8 (orT T d) 2 ≠ 0) ∧ (Go.bits .and .u8 d 4 ≠ 0 → Go.bits .and .u8 (orT T d) 4 ≠ 0) := by
  obtain ⟨n, rfl⟩ := Int.eq_ofNat_of_zero_le hd.1
  obtain ⟨t, rfl⟩ := Int.eq_ofNat_of_zero_le hT.1
  exact orT_all ⟨n, by omega⟩ ⟨t, by omega⟩
theorem filter_sub (p q : Nat → Bool) (h : ∀ x, p x = true → q x = true) : ∀ l : List Nat, (l.filter p).Sublist (l.filter q) := by
  intro l
  induction l with
  | nil => exact List.Sublist.slnil
  | cons x t ih =>
    by_cases c : p x = true
    · rw [List.filter_cons_of_pos c, List.filter_cons_of_pos (h x c)]
      exact List.Sublist.cons_cons x ih
    · rw [List.filter_cons_of_neg c]
      by_cases c2 : q x = true
      · rw [List.filter_cons_of_pos c2]
        exact ih.cons x
      · rw [List.filter_cons_of_neg c2]
        exact ih
theorem may_or (D : List Int) (hD : ∀ x ∈ D, 0 ≤ x ∧ x ≤ 7) (T : Int) (hT : 0 ≤ T ∧ T ≤ 7) (h a b : Nat) (hm : mayD D h a b = true) : mayD (D.map (orT T)) h a b = true := by
  unfold mayD bitD at *
  rw [Bool.and_eq_true, decide_eq_true_eq] at hm
  obtain ⟨⟨g1, g2⟩, g3⟩ := hm
  have hlt : h - a - b - 1 < D.length := by omega
  have e : rd (D.map (orT T)) ((h - a - b - 1 : Nat) : Int) = orT T (rd D ((h - a - b - 1 : Nat) : Int)) := by
    rw [rd_nat (by rw [List.length_map]; exact hlt), rd_nat hlt, List.getElem_map]
  obtain ⟨_, o1, o2, o4⟩ := orT_ok T (rd D ((h - a - b - 1 : Nat) : Int)) hT (hD _ (rd_mem (by omega) (by omega)))
  rw [List.length_map, decide_eq_true (p := 1 ≤ h - a - b ∧ h - a - b ≤ D.length) ⟨g1, g2⟩, Bool.true_and, e]
  by_cases cb : b = 0
  · rw [if_pos cb] at g3 ⊢
    exact decide_eq_true (o1 (of_decide_eq_true g3))
  · rw [if_neg cb] at g3 ⊢
    by_cases ca : a = 0
    · rw [if_pos ca] at g3 ⊢
      exact decide_eq_true (o2 (of_decide_eq_true g3))
    · rw [if_neg ca] at g3 ⊢
      exact decide_eq_true (o4 (of_decide_eq_true g3))
theorem LS_sub (D : List Int) (hD : ∀ x ∈ D, 0 ≤ x ∧ x ≤ 7) (T : Int) (hT : 0 ≤ T ∧ T ≤ 7) (h : Nat) : ∀ m, (LS D h m).Sublist (LS (D.map (orT T)) h m) := by
  intro m
  induction m with
  | zero => exact List.Sublist.slnil
  | succ m ih =>
    rw [LS_succ, LS_succ]
    refine ih.append ?_
    unfold rowSf rowSj
    exact (filter_sub _ _ (fun b hb => may_or D hD T hT h m b hb) _).map _
theorem sub_ne {α : Type} {a b : α} {s t : List α} (hne : a ≠ b) (h : (a :: s).Sublist (b :: t)) : (a :: s).Sublist t := by
  cases h with
  | cons _ h => exact h
  | cons_cons _ h => exact absurd rfl hne
theorem rdM {xs : List S46} {n : Nat} (h : n < xs.length) : rd_T46 xs (n : Int) = xs[n] := by simp [rd_T46, List.getD_eq_getElem?_getD, List.getElem?_eq_getElem h]
/-- What the rule leaves is found, in order, among what the wider rule leaves. -/
theorem find_ev (M L : List S46) (hL : L.length ≤ 100000) (hM : M.length ≤ 100000) (hs : M.Sublist L) : Ev (fun k => laws_FnOctals.l2 k M L 0 0) true := by
  have outer : ∀ (d k at_ : Nat), k + d = M.length → at_ ≤ L.length → (M.drop k).Sublist (L.drop at_) → Ev (fun q => laws_FnOctals.l2 q M L (at_ : Int) (k : Int)) true := by
    intro d
    induction d with
    | zero =>
      intro k at_ hk ha hs
      refine Ev_round ?_
      simp only [laws_FnOctals.l2]
      exact Ev_neg (by omega) (Ev.now _)
    | succ d ih =>
      intro k at_ hk ha hs
      have hkl : k < M.length := by omega
      have inner : ∀ (e a : Nat), a + e = L.length → (M.drop k).Sublist (L.drop a) → Ev (fun q => laws_FnOctals.l3 q M L (a : Int) (k : Int)) true := by
        intro e
        induction e with
        | zero =>
          intro a hae hsub
          rw [List.drop_of_length_le (l := L) (by omega)] at hsub
          have := List.sublist_nil.1 hsub
          rw [List.drop_eq_nil_iff] at this
          omega
        | succ e ihe =>
          intro a hae hsub
          have hal : a < L.length := by omega
          refine Ev_round ?_
          simp only [laws_FnOctals.l3]
          rw [rdM hal, rdM hkl, w64 (x := (a : Int) + 1) (by omega) (by omega), w64 (x := (k : Int) + 1) (by omega) (by omega)]
          refine Ev_pos (by omega) (Ev_pos (by omega) (Ev_pos (by omega) (Ev_pos (by omega) ?_)))
          by_cases c : L[a] = M[k]
          · refine Ev_neg (by rw [c]; simp) (Ev_neg (by omega) (ih (k + 1) a (by omega) (by omega) ?_))
            refine List.Sublist.trans ?_ hsub
            rw [List.drop_eq_getElem_cons hkl]
            exact List.sublist_cons_self _ _
          · refine Ev_pos ?_ (ihe (a + 1) (by omega) ?_)
            · by_cases c0 : (L[a]).f0 = (M[k]).f0
              · by_cases c1 : (L[a]).f1 = (M[k]).f1
                · exact absurd (show L[a] = M[k] by
                    have e1 : L[a] = ⟨(L[a]).f0, (L[a]).f1⟩ := rfl
                    have e2 : M[k] = ⟨(M[k]).f0, (M[k]).f1⟩ := rfl
                    rw [e1, e2, c0, c1]) c
                · simp [c1]
              · simp [c0]
            · rw [List.drop_eq_getElem_cons hal, List.drop_eq_getElem_cons hkl] at hsub
              rw [List.drop_eq_getElem_cons hkl]
              exact sub_ne (fun e => c e.symm) hsub
      refine Ev_round ?_
      simp only [laws_FnOctals.l2]
      exact Ev_pos (by omega) (inner (L.length - at_) at_ (by omega) hs)
  exact outer M.length 0 0 (by omega) (by omega) (by simpa using hs)
theorem octR_of (D : List Int) (hD : ∀ x ∈ D, 0 ≤ x ∧ x ≤ 7) (h1 : 1 ≤ D.length) (h4 : D.length ≤ 4) (H : Nat) (hH : H ≤ 29) : octR D (H : Int) = true := by
  unfold octR
  rw [Bool.and_eq_true, Bool.and_eq_true, Bool.not_eq_true', decide_eq_true_eq, decide_eq_true_eq]
  refine ⟨?_, ⟨h1, by omega⟩, by omega, by omega⟩
  rw [List.any_eq_false]
  intro x hx
  have := hD x hx
  simp
  omega
theorem main_ev (x1 : List Int) (D : List Int) (hD : ∀ x ∈ D, 0 ≤ x ∧ x ≤ 7) (h1 : 1 ≤ D.length) (h4 : D.length ≤ 4) (H : Nat) (hH : H ≤ 29) (T : Int) (hT : 0 ≤ T ∧ T ≤ 7) (hp : spec_P6Pick.f x1 8 = some T) :
    Ev (fun k => laws_FnOctals.j1 k x1 D (H : Int) (OV D (H + 1)) (LS D H (H + 1)) false) true := by
  have hO := OV_len D (H + 1)
  have hM := LS_len D H (H + 1)
  have hM2 : (H + 1) * H ≤ 30 * 29 := Nat.mul_le_mul (by omega) (by omega)
  -- behind the rule: the wider one
  have wide : Ev (fun k => laws_FnOctals.j3 k x1 D (H : Int) (LS D H (H + 1)) false) true := by
    have loop : ∀ (d n : Nat), n + d = D.length → Ev (fun k => laws_FnOctals.l1 k x1 D (H : Int) (LS D H (H + 1)) ((D.take n).map (orT T)) (n : Int)) true := by
      intro d
      induction d with
      | zero =>
        intro n hn
        rw [List.take_of_length_le (by omega)]
        refine Ev_round ?_
        simp only [laws_FnOctals.l1]
        have hE : ∀ x ∈ D.map (orT T), 0 ≤ x ∧ x ≤ 7 := by
          intro x hx
          obtain ⟨d, hd, rfl⟩ := List.mem_map.1 hx
          exact (orT_ok T d hT (hD d hd)).1
        have hr := octR_of (D.map (orT T)) hE (by rw [List.length_map]; exact h1) (by rw [List.length_map]; exact h4) H hH
        have hi := impl_om_ev (D.map (orT T)) (by rw [List.length_map]; omega) (fun x hx => (hE x hx).1) (H : Int)
        unfold omR at hi
        rw [if_pos hr, Int.toNat_natCast] at hi
        have hsub := LS_sub D hD T hT H (H + 1)
        have hL := LS_len (D.map (orT T)) H (H + 1)
        have hle := hsub.length_le
        refine Ev_neg (by omega) (Ev.bind hi (Ev_pos rfl (Ev_round ?_)))
        simp only [laws_FnOctals.j5]
        exact Ev_neg (by simp; omega) (find_ev _ _ (by omega) (by omega) hsub)
      | succ d ih =>
        intro n hn
        have hlt : n < D.length := by omega
        have nx := ih (n + 1) (by omega)
        rw [List.take_succ_eq_append_getElem hlt, List.map_append] at nx
        refine Ev_round ?_
        simp only [laws_FnOctals.l1]
        rw [rd_nat hlt, w64 (x := (n : Int) + 1) (by omega) (by omega)]
        refine Ev_pos (by omega) (Ev_pos (by omega) (Ev_bind1 hp ?_))
        rw [show T % 256 = T by omega]
        exact Ev_pos (by rw [List.length_map, List.length_take]; omega) nx
    have := loop D.length 0 (by omega)
    refine Ev_round ?_
    simp only [laws_FnOctals.j3]
    exact Ev_neg (by simp) this
  -- what is left of the heap
  have loop : ∀ (d n : Nat), n + d = (LS D H (H + 1)).length → Ev (fun k => laws_FnOctals.l0 k x1 D (H : Int) (OV D (H + 1)) (LS D H (H + 1)) (((LS D H (H + 1)).take n).map fun m => X (rd (OV D (H + 1)) m.f0) (rd (OV D (H + 1)) m.f1)) (n : Int)) true := by
    intro d
    induction d with
    | zero =>
      intro n hn
      rw [List.take_of_length_le (by omega)]
      have e : ((LS D H (H + 1)).map fun m => X (rd (OV D (H + 1)) m.f0) (rd (OV D (H + 1)) m.f1)) = octL D (OV D H) H := octL_pre D H
      rw [e]
      have hl : (octL D (OV D H) H).length ≤ 870 := by unfold octL; rw [List.length_map]; omega
      have hml := mexN_le (octL D (OV D H) H)
      refine Ev_round ?_
      simp only [laws_FnOctals.l0]
      have hex : Ev (fun k => impl_ExcludedBy.f k (octL D (OV D H) H)) (((mexN (octL D (OV D H) H) : Nat) : Int), 0) := by
        unfold impl_ExcludedBy.f
        exact Ev_neg (by omega) (Ev.bind (impl_mex_ev _ (by omega) (octL_range D H (by omega))) (Ev.now _))
      refine Ev_neg (by omega) (Ev.bind hex (Ev_pos rfl (Ev_pos (by omega) (Ev_pos (by omega) ?_))))
      rw [OV_last, w64 (by omega) (by omega)]
      simp only [bne_self_eq_false]
      exact wide
    | succ d ih =>
      intro n hn
      have hlt : n < (LS D H (H + 1)).length := by omega
      have nx := ih (n + 1) (by omega)
      rw [List.take_succ_eq_append_getElem hlt, List.map_append] at nx
      obtain ⟨a, b, hab, g1, g2, g3⟩ := (mem_LS D H _).1 (List.getElem_mem hlt)
      have e0 : ((LS D H (H + 1))[n]).f0 = (a : Int) := by rw [hab]; rfl
      have e1 : ((LS D H (H + 1))[n]).f1 = (b : Int) := by rw [hab]; rfl
      simp only [List.map_cons, List.map_nil, e0, e1] at nx
      have hlen : (((LS D H (H + 1)).take n).map fun m => X (rd (OV D (H + 1)) m.f0) (rd (OV D (H + 1)) m.f1)).length ≤ n := by
        rw [List.length_map, List.length_take]; omega
      unfold mayD at g3
      rw [Bool.and_eq_true, decide_eq_true_eq] at g3
      have g4 := g3.1
      refine Ev_round ?_
      simp only [laws_FnOctals.l0]
      rw [rdM hlt, e0, e1, w64 (x := (n : Int) + 1) (by omega) (by omega), w64 (x := (a : Int) + (b : Int)) (by omega) (by omega), w64 (x := (H : Int) - (a : Int)) (by omega) (by omega), w64 (x := (H : Int) - (a : Int) - (b : Int)) (by omega) (by omega)]
      have f1 : impl_PlusNim.f (rd (OV D (H + 1)) (a : Int)) (rd (OV D (H + 1)) (b : Int)) = some (X (rd (OV D (H + 1)) (a : Int)) (rd (OV D (H + 1)) (b : Int))) := rfl
      exact Ev_pos (by omega) (Ev_pos (by omega) (Ev_neg (by omega) (Ev_neg (by omega) (Ev_neg (by omega) (Ev_neg (by omega) (Ev_pos (by omega) (Ev_pos (by omega) (Ev_pos (by omega) (Ev_pos (by omega) (Ev_bind1 f1 (Ev_pos (by omega) nx)))))))))))
  have := loop _ 0 (Nat.zero_add _)
  rw [List.take_zero, List.map_nil] at this
  refine Ev_round ?_
  simp only [laws_FnOctals.j1]
  exact Ev_neg (by simp) this
theorem FnOctals : laws_FnOctals.Pure := by
  intro c m _ _ hc _ _ hm
  have hcu : ∀ x ∈ c, 0 ≤ x ∧ x ≤ 255 := fun x hx => wf_u8 (hc x hx)
  have hmu : ∀ x ∈ m, 0 ≤ x ∧ x ≤ 255 := fun x hx => wf_u8 (hm x hx)
  refine Ev.rounds (r := true) ?_
  by_cases c1 : (c.length : Int) > 4096
  · refine Ev_bind1 (a := true) (by unfold laws_f6big.f; rw [decide_eq_true c1]) (Ev_pos rfl (Ev_round ?_))
    simp only [laws_FnOctals.j0]
    exact Ev_pos (by simp) (Ev.now _)
  refine Ev_bind1 (a := false) (by unfold laws_f6big.f; rw [decide_eq_false c1]) (Ev_neg (by simp) ?_)
  by_cases c2 : (m.length : Int) > 4096
  · refine Ev_bind1 (a := true) (by unfold laws_f6big.f; rw [decide_eq_true c2]) (Ev_round ?_)
    simp only [laws_FnOctals.j0]
    exact Ev_pos (by simp) (Ev.now _)
  refine Ev_bind1 (a := false) (by unfold laws_f6big.f; rw [decide_eq_false c2]) (Ev_round ?_)
  simp only [laws_FnOctals.j0]
  obtain ⟨D, hD, hD1, hD4, hDv⟩ := octal_ok c hcu (by omega)
  obtain ⟨h, hp, h0, h29⟩ := pick1_ok m hmu (by omega) 30 (by omega) (by omega)
  obtain ⟨T, hT, t0, t8⟩ := pick1_ok m hmu (by omega) 8 (by omega) (by omega)
  obtain ⟨H, rfl⟩ := Int.eq_ofNat_of_zero_le h0
  have hr := octR_of D hDv hD1 hD4 H (by omega)
  have a1 := impl_ov_ev D (by omega) (fun x hx => (hDv x hx).1) (H : Int)
  have a2 := spec_ov_ev D (by omega) (H : Int)
  have a3 := impl_om_ev D (by omega) (fun x hx => (hDv x hx).1) (H : Int)
  have a4 := spec_om_ev D (by omega) (H : Int)
  unfold ovR at a1 a2
  unfold omR at a3 a4
  rw [if_pos hr, Int.toNat_natCast] at a1 a2 a3 a4
  have hO := OV_len D (H + 1)
  have hM := LS_len D H (H + 1)
  have hM2 : (H + 1) * H ≤ 30 * 29 := Nat.mul_le_mul (by omega) (by omega)
  have hb := main_ev m D hDv hD1 hD4 H (by omega) T ⟨t0, by omega⟩ hT
  refine Ev_neg (by simp) (Ev.bind hD (Ev_bind1 hp (Ev.bind a1 (Ev.bind a2 (Ev.bind a3 (Ev.bind a4 (Ev_pos rfl (Ev_pos rfl (Ev.bind (sameNims_ev (OV D (H + 1)) (by omega)) (Ev_pos rfl (Ev_pos ?_ (Ev_pos rfl (Ev_pos rfl (Ev.bind (samePairs_ev (LS D H (H + 1)) (by omega)) ?_))))))))))))))
  · rw [w64 (by omega) (by omega)]
    simp only [hO]
    omega
  · exact hb

end Go.Proofs.Yteinllalhiflcaa.Pure
