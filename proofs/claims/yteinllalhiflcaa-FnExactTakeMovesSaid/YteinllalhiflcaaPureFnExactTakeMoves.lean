/- FnExactTakeMoves: the printed pure statement holds: at every input the law's function answers true; no condition but the bounds of its kinds. -/
import Derived.Test.YteinllalhiflcaaQFnExactTakeMovesx5
import Derived.Test.YteinllalhiflcaaLib
import Derived.Test.YteinllalhiflcaaLib3
set_option linter.unusedVariables false
set_option linter.unusedSimpArgs false
namespace Go.Proofs.Yteinllalhiflcaa.Pure
open Go.RowKit Go.Proofs.Yteinllalhiflcaa.QFnExactTakeMoves Go.Proofs.YteinllalhiflcaaW.PrintWords Go.Proofs.YteinllalhiflcaaW.PrintLast Go.Proofs.Yteinllalhiflcaa.Lib

theorem least_ev (l : List Int) (hl : l.length ≤ 65535) (hr : ∀ x ∈ l, 0 ≤ x ∧ x ≤ 65535) : Ev (fun k => spec_l03Least.f k l) ((mexN l : Nat) : Int) := by
  have hm := mexN_is l
  have hle := mexN_le l
  have last : ∀ (d n : Nat), n + d = mexN l → Ev (fun k => spec_l03Least.l1 k (flags (l.length + 1) l) (n : Int)) ((mexN l : Nat) : Int) := by
    intro d
    induction d with
    | zero =>
      intro n h
      obtain rfl : n = mexN l := by omega
      refine Ev_round ?_
      simp only [spec_l03Least.l1]
      refine Ev_pos (by omega) (Ev_pos (by rw [flags_length]; omega) (Ev_neg ?_ ?_))
      · rw [rdOf, List.getD_eq_getElem?_getD, List.getElem?_eq_getElem (by rw [Int.toNat_natCast, flags_length]; omega), Option.getD_some, flags_get]
        simp [hm.1]
      · rw [wu16 (by omega) (by omega)]
        exact Ev.now _
    | succ d ih =>
      intro n h
      refine Ev_round ?_
      simp only [spec_l03Least.l1]
      refine Ev_pos (by omega) (Ev_pos (by rw [flags_length]; omega) (Ev_pos ?_ ?_))
      · rw [rdOf, List.getD_eq_getElem?_getD, List.getElem?_eq_getElem (by rw [Int.toNat_natCast, flags_length]; omega), Option.getD_some, flags_get]
        simp [hm.2 n (by omega)]
      · rw [w64 (by omega) (by omega)]
        exact ih (n + 1) (by omega)
  have main : ∀ (d n : Nat), n + d = l.length → Ev (fun k => spec_l03Least.l0 k l (flags (l.length + 1) (l.take n)) (n : Int)) ((mexN l : Nat) : Int) := by
    intro d
    induction d with
    | zero =>
      intro n h
      obtain rfl : n = l.length := by omega
      refine Ev_round ?_
      simp only [spec_l03Least.l0]
      refine Ev_neg (by omega) ?_
      rw [List.take_length]
      exact last (mexN l) 0 (by omega)
    | succ d ih =>
      intro n h
      have hn : n < l.length := by omega
      have hx := hr _ (List.getElem_mem hn)
      have ht : l.take (n + 1) = l.take n ++ [l[n]] := by rw [List.take_succ_eq_append_getElem hn]
      refine Ev_round ?_
      simp only [spec_l03Least.l0]
      refine Ev_pos (by omega) (Ev_pos (by omega) ?_)
      rw [rd_nat hn, w64 (by omega) (by omega), w64 (by omega) (by omega), flags_length]
      have nx := ih (n + 1) (by omega)
      rw [ht] at nx
      by_cases c : l[n] < ((l.length + 1 : Nat) : Int)
      · refine Ev_pos c (Ev_pos (by omega) (Ev_pos c ?_))
        rw [flags_set _ _ _ (by omega), Int.toNat_of_nonneg hx.1]
        exact nx
      · refine Ev_neg c ?_
        rw [flags_out _ _ _ (by omega)] at nx
        exact nx
  unfold spec_l03Least.f
  rw [w64 (by omega) (by omega)]
  refine Ev_pos (by omega) (Ev_pos (by omega) ?_)
  have := main l.length 0 (by omega)
  rw [List.take_zero, flags_nil] at this
  exact this

theorem spec_take_ev (t H : Nat) (ht : t ≤ 18446744073709551615) (hH : H ≤ 500) : Ev (fun k => spec_l03Take.f k (t : Int) (H : Int)) (TV t (H + 1)) := by
  have outer : ∀ (d n : Nat), n + d = H + 1 → Ev (fun k => spec_l03Take.l0 k (t : Int) (H : Int) (TV t n) (n : Int)) (TV t (H + 1)) := by
    intro d
    induction d with
    | zero =>
      intro n hn
      obtain rfl : n = H + 1 := by omega
      refine Ev_round ?_
      simp only [spec_l03Take.l0]
      exact Ev_neg (by omega) (Ev.now _)
    | succ d ih =>
      intro n hn
      refine Ev_round ?_
      simp only [spec_l03Take.l0]
      refine Ev_pos (by omega) ?_
      have nx := ih (n + 1) (by omega)
      have inner : ∀ (e m : Nat), m + e = min n 63 → Ev (fun k => spec_l03Take.l1 k (t : Int) (H : Int) (TV t n) (n : Int) (takeTo t (TV t n) n m) ((m + 1 : Nat) : Int)) (TV t (H + 1)) := by
        intro e
        induction e with
        | zero =>
          intro m hm
          obtain rfl : m = min n 63 := by omega
          refine Ev_round ?_
          simp only [spec_l03Take.l1]
          have hl1 := takeTo_len t (TV t n) n (min n 63)
          have hl2 := takeTo_range t n (min n 63) (by omega)
          have fin : ∀ b, b = false → Ev (fun k => spec_l03Take.j2 k (t : Int) (H : Int) (TV t n) (n : Int) (takeTo t (TV t n) n (min n 63)) ((min n 63 + 1 : Nat) : Int) b) (TV t (H + 1)) := by
            intro b hb
            refine Ev_round ?_
            simp only [spec_l03Take.j2]
            refine Ev_neg (by simp [hb]) (Ev.bind (least_ev _ (by omega) (fun x hx => by have := hl2 x hx; omega)) (Ev_pos (by rw [TV_len]; omega) ?_))
            rw [w64 (by omega) (by omega)]
            exact nx
          exact Ev_ite' (fun c => fin _ (by apply decide_eq_false; omega)) (fun c => fin _ rfl)
        | succ e ihe =>
          intro m hm
          refine Ev_round ?_
          simp only [spec_l03Take.l1]
          refine Ev_pos (by omega) (Ev_round ?_)
          simp only [spec_l03Take.j2]
          have e1 : IntKind.u64.wrap ((m + 1 : Nat) : Int) = ((m + 1 : Nat) : Int) := wu64 (by omega) (by omega)
          have e2 : wrap64 (((m + 1 : Nat) : Int) + 1) = ((m + 1 + 1 : Nat) : Int) := by rw [w64 (by omega) (by omega)]; omega
          have e3 : wrap64 ((n : Int) - ((m + 1 : Nat) : Int)) = ((n - (m + 1) : Nat) : Int) := by rw [w64 (by omega) (by omega)]; omega
          rw [e1, e2, e3, bit_u64 t (m + 1) ht (by omega)]
          have nx2 := ihe (m + 1) (by omega)
          rw [takeTo_succ] at nx2
          have hl1 := takeTo_len t (TV t n) n m
          refine Ev_pos (by simp; omega) (Ev_pos (by omega) ?_)
          by_cases c : t.testBit (m + 1) = true
          · rw [if_pos c] at nx2
            exact Ev_pos (by simp [c]) (Ev_pos (by omega) (Ev_pos (by rw [TV_len]; omega) (Ev_pos (by omega) nx2)))
          · rw [if_neg c, List.append_nil] at nx2
            exact Ev_neg (by simp [c]) nx2
      have := inner (min n 63) 0 (by omega)
      rw [takeTo_zero] at this
      exact this
  exact outer (H + 1) 0 (by omega)

/-- The sum of the values of places. -/
def sumP (vals l : List Int) : Int := l.foldl (fun s p => X s (rd vals p)) 0
theorem spec_sumP_ev (vals l : List Int) (hl : l.length ≤ 1048576) (hp : ∀ p ∈ l, 0 ≤ p ∧ p < (vals.length : Int)) : Ev (fun k => spec_l03Sum.f k vals l) (sumP vals l) :=
  fold_loop (L := fun k s i => spec_l03Sum.l0 k vals l s i) (f := fun s p => X s (rd vals p)) (fin := id) l (fun _ _ => True)
    (fun k s n h _ => by
      have := hp _ (List.getElem_mem h)
      simp only [spec_l03Sum.l0]
      rw [rd_nat h, if_pos (by omega), if_pos (by omega), if_pos this.1, if_pos this.2, w64 (by omega) (by omega)]
      rfl)
    (fun _ _ _ _ => trivial)
    (fun k s _ => by simp only [spec_l03Sum.l0]; rw [if_neg (by omega)]; rfl) l.length 0 0 (by omega) trivial

/-- Does the move from h to l make the sum 0? -/
def tmWin (t : Nat) (V : List Int) (s : Int) (h l : Nat) : Bool := t.testBit (h - l) && decide (X (X s (rd V h)) (rd V l) = 0)
def tmRow (t : Nat) (V : List Int) (s : Int) (i h n : Nat) : List S46 := ((List.range' (h - 63) n).filter fun l => tmWin t V s h l).map fun (l : Nat) => ⟨(i : Int), (l : Int)⟩
theorem tmRow_zero (t : Nat) (V : List Int) (s : Int) (i h : Nat) : tmRow t V s i h 0 = [] := by simp [tmRow]
theorem tmRow_succ (t : Nat) (V : List Int) (s : Int) (i h n : Nat) : tmRow t V s i h (n + 1) = tmRow t V s i h n ++ (if tmWin t V s h (h - 63 + n) then [⟨(i : Int), ((h - 63 + n : Nat) : Int)⟩] else []) := by
  unfold tmRow
  rw [List.range'_1_concat, List.filter_append, List.map_append]
  congr 1
  by_cases c : tmWin t V s h (h - 63 + n) = true
  · simp [c]
  · simp [c]
theorem tmRow_len (t : Nat) (V : List Int) (s : Int) (i h n : Nat) : (tmRow t V s i h n).length ≤ n := by
  unfold tmRow
  rw [List.length_map]
  have := List.length_filter_le (fun l => tmWin t V s h l) (List.range' (h - 63) n)
  simpa using this
/-- The moves that win from the first i heaps. -/
def tmDone (t : Nat) (V : List Int) (s : Int) (l : List Int) : Nat → List S46
  | 0 => []
  | i + 1 => tmDone t V s l i ++ tmRow t V s i (rd l i).toNat ((rd l i).toNat - ((rd l i).toNat - 63))
theorem tmDone_succ (t : Nat) (V : List Int) (s : Int) (l : List Int) (i : Nat) : tmDone t V s l (i + 1) = tmDone t V s l i ++ tmRow t V s i (rd l i).toNat ((rd l i).toNat - ((rd l i).toNat - 63)) := rfl
theorem tmDone_len (t : Nat) (V : List Int) (s : Int) (l : List Int) : ∀ i, (tmDone t V s l i).length ≤ i * 63 := by
  intro i
  induction i with
  | zero => simp [tmDone]
  | succ i ih =>
    unfold tmDone
    rw [List.length_append]
    have := tmRow_len t V s i (rd l i).toNat ((rd l i).toNat - ((rd l i).toNat - 63))
    omega
def okHeap (p : Int) : Bool := decide (0 ≤ p) && decide (p ≤ 500)
/-- What TakeMoves tells. -/
def tmR (t : Nat) (l : List Int) : List S46 × Int :=
  if l.length > 12 then ([], 3) else if t % 2 = 1 then ([], 2) else if l.all okHeap = true then (tmDone t (TV t 501) (sumP (TV t 501) l) l l.length, 0) else ([], 2)
theorem tm_heaps {l : List Int} (h : l.all okHeap = true) : ∀ p ∈ l, 0 ≤ p ∧ p ≤ 500 := fun p hp => by
  have := List.all_eq_true.1 h p hp
  simpa [okHeap] using this
set_option maxHeartbeats 1000000 in
theorem spec_tm_loop (t : Nat) (ht : t ≤ 18446744073709551615) (V : List Int) (hV : V.length = 501) (s : Int) (l : List Int) (hl : l.length ≤ 12) (hp : ∀ p ∈ l, 0 ≤ p ∧ p ≤ 500) :
    ∀ (d i : Nat), i + d = l.length → Ev (fun k => spec_TakeMoves.l1 k (t : Int) l V s (tmDone t V s l i) (i : Int)) (tmDone t V s l l.length, 0) := by
  intro d
  induction d with
  | zero =>
    intro i h
    obtain rfl : i = l.length := by omega
    refine Ev_round ?_
    simp only [spec_TakeMoves.l1]
    exact Ev_neg (by omega) (Ev.now _)
  | succ d ih =>
    intro i h
    have hi : i < l.length := by omega
    have hpi := hp _ (List.getElem_mem hi)
    have nx := ih (i + 1) (by omega)
    obtain ⟨H, hH⟩ := Int.eq_ofNat_of_zero_le hpi.1
    have hr : rd l (i : Int) = (H : Int) := by rw [rd_nat hi]; exact hH
    have hH5 : H ≤ 500 := by omega
    have hq3 : H - 63 ≤ H ∧ H - (H - 63) ≤ 63 ∧ ((H : Int) ≤ ((H - 63 : Nat) : Int) + 63) ∧ mx ((H : Int) - 63) 0 = ((H - 63 : Nat) : Int) := ⟨by omega, by omega, by omega, by unfold mx; split <;> omega⟩
    generalize hq : H - 63 = q at hq3
    have HQ := Aside0.mk hq
    have HM := Aside0.mk hq3.2.2.2
    have hqa := hq3.1
    have hqb := hq3.2.1
    have hqc := hq3.2.2.1
    clear hq hq3
    have inner : ∀ (e n : Nat), n + e = H - q → Ev (fun k => spec_TakeMoves.l2 k (t : Int) l V s (tmDone t V s l i ++ tmRow t V s i H n) (i : Int) ((q + n : Nat) : Int)) (tmDone t V s l l.length, 0) := by
      intro e
      induction e with
      | zero =>
        intro n hn
        refine Ev_round ?_
        simp only [spec_TakeMoves.l2]
        rw [hr]
        refine Ev_pos (by omega) (Ev_pos (by omega) (Ev_neg (by omega) ?_))
        rw [w64 (by omega) (by omega)]
        have e1 : tmDone t V s l (i + 1) = tmDone t V s l i ++ tmRow t V s i H n := by
          rw [tmDone_succ, hr, Int.toNat_natCast, HQ.out, show n = H - q by omega]
        rw [e1] at nx
        exact nx
      | succ e ihe =>
        intro n hn
        refine Ev_round ?_
        simp only [spec_TakeMoves.l2]
        rw [hr]
        have nx2 := ihe (n + 1) (by omega)
        rw [tmRow_succ, HQ.out] at nx2
        have e1 : IntKind.u64.wrap (wrap64 ((H : Int) - ((q + n : Nat) : Int))) = ((H - (q + n) : Nat) : Int) := by
          rw [w64 (by omega) (by omega), wu64 (by omega) (by omega)]; omega
        have e2 : wrap64 (((q + n : Nat) : Int) + 1) = ((q + (n + 1) : Nat) : Int) := by rw [w64 (by omega) (by omega)]; omega
        have e3 := bit_u64 t (H - (q + n)) ht (Nat.le_trans (Nat.sub_le_sub_left (Nat.le_add_right q n) H) hqb)
        rw [e1, e2, e3]
        clear e1 e2 e3
        have h1 := tmDone_len t V s l i
        have h2 := tmRow_len t V s i H n
        have hlen : (tmDone t V s l i ++ tmRow t V s i H n).length < 8796093022208 := by rw [List.length_append]; omega
        have g1 : (0 : Int) ≤ (H : Int) ∧ (H : Int) < (V.length : Int) ∧ (0 : Int) ≤ ((q + n : Nat) : Int) ∧ ((q + n : Nat) : Int) < (V.length : Int) := by omega
        refine Ev_pos (by omega) (Ev_pos (by omega) (Ev_pos (by omega) (Ev_pos (by omega) ?_)))
        by_cases c : t.testBit (H - (q + n)) = true
        · refine Ev_pos (by simp [c]) (Ev_pos g1.1 (Ev_pos g1.2.1 (Ev_pos g1.2.2.1 (Ev_pos g1.2.2.2 ?_))))
          by_cases c2 : X (X s (rd V (H : Int))) (rd V ((q + n : Nat) : Int)) = 0
          · rw [if_pos (by unfold tmWin; rw [c, decide_eq_true c2]; rfl), ← List.append_assoc] at nx2
            exact Ev_pos c2 (Ev_pos hlen nx2)
          · rw [if_neg (by unfold tmWin; rw [c, decide_eq_false c2]; decide), List.append_nil] at nx2
            exact Ev_neg c2 nx2
        · rw [if_neg (by unfold tmWin; rw [Bool.eq_false_iff.mpr c]; simp), List.append_nil] at nx2
          exact Ev_neg (by simp [c]) nx2
    have hin := inner (H - q) 0 (by omega)
    rw [tmRow_zero, List.append_nil, Nat.add_zero] at hin
    refine Ev_round ?_
    simp only [spec_TakeMoves.l1]
    refine Ev_pos (by omega) (Ev_pos (by omega) ?_)
    rw [hr, w64 (by omega) (by omega)]
    refine Ev_bind1 (a := ((q : Nat) : Int)) ?_ hin
    unfold spec_l00Max.f
    by_cases c : (0 : Int) > (H : Int) - 63
    · rw [if_pos c]; congr 1; have := HQ.out; omega
    · rw [if_neg c]; congr 1; have := HQ.out; omega
theorem spec_tm_ev (t : Nat) (ht : t ≤ 18446744073709551615) (l : List Int) : Ev (fun k => spec_TakeMoves.f k (t : Int) l) (tmR t l) := by
  unfold tmR
  by_cases c0 : l.length > 12
  · rw [if_pos c0]
    exact Ev_pos (by omega) (Ev.now _)
  rw [if_neg c0]
  refine Ev_neg (by omega) ?_
  have main : ∀ (b : Bool), b = (decide (t % 2 = 0) && l.all okHeap) → Ev (fun k => spec_TakeMoves.j1 k (t : Int) l b) (if t % 2 = 1 then ([], 2) else if l.all okHeap = true then (tmDone t (TV t 501) (sumP (TV t 501) l) l l.length, 0) else ([], 2)) := by
    intro b hb
    refine Ev_round ?_
    simp only [spec_TakeMoves.j1]
    by_cases c1 : t % 2 = 1
    · rw [if_pos c1]
      exact Ev_neg (by rw [hb]; simp; omega) (Ev.now _)
    · rw [if_neg c1]
      by_cases c2 : l.all okHeap = true
      · rw [if_pos c2]
        have hp := tm_heaps c2
        exact Ev_pos (by rw [hb]; simp [c2]; omega) (Ev.bind (spec_take_ev t 500 ht (by omega)) (Ev.bind (spec_sumP_ev (TV t 501) l (by omega) (fun p hm => by have := hp p hm; rw [TV_len]; omega)) (spec_tm_loop t ht (TV t 501) (TV_len _ _) _ l (by omega) hp l.length 0 (by omega))))
      · rw [if_neg c2]
        exact Ev_neg (by rw [hb]; simp [c2]) (Ev.now _)
  have loop : ∀ (d n : Nat) (b : Bool), n + d = l.length → b = (decide (t % 2 = 0) && (l.take n).all okHeap) → Ev (fun k => spec_TakeMoves.l0 k (t : Int) l b (n : Int)) (if t % 2 = 1 then ([], 2) else if l.all okHeap = true then (tmDone t (TV t 501) (sumP (TV t 501) l) l l.length, 0) else ([], 2)) := by
    intro d
    induction d with
    | zero =>
      intro n b h hb
      refine Ev_round ?_
      simp only [spec_TakeMoves.l0]
      refine Ev_neg (by omega) (main b ?_)
      rw [hb, List.take_of_length_le (by omega)]
    | succ d ih =>
      intro n b h hb
      refine Ev_round ?_
      simp only [spec_TakeMoves.l0]
      refine Ev_pos (by omega) ?_
      cases b with
      | true =>
        have hn : n < l.length := by omega
        refine Ev_pos rfl (Ev_pos (by omega) ?_)
        rw [w64 (by omega) (by omega), rd_nat hn]
        refine Ev_bind1 (a := okHeap l[n]) (by unfold spec_l03Heap.f spec_l00In.f okHeap; by_cases c : l[n] ≥ 0 <;> simp [c]) ?_
        refine ih (n + 1) _ (by omega) ?_
        rw [List.take_succ_eq_append_getElem hn, List.all_append]
        have hb' := hb.symm
        rw [Bool.and_eq_true] at hb'
        rw [hb'.1, hb'.2]
        simp
      | false =>
        refine Ev_neg (by simp) (main false ?_)
        cases hh : decide (t % 2 = 0) with
        | false => rfl
        | true =>
          rw [hh] at hb
          have h1 : (l.take n).all okHeap = false := by simpa using hb.symm
          rw [← List.take_append_drop n l, List.all_append, h1]
          rfl
  have := loop l.length 0 ((Go.bits .and .u64 (t : Int) 1) == 0) (by omega) (by
    rw [and1_u64 (by omega) (by omega)]
    simp only [List.take_zero, List.all_nil, Bool.and_true]
    rw [Bool.eq_iff_iff]
    simp
    omega)
  exact this

theorem toInt64S_ev (xs : List Int) (hn : xs.length ≤ 1048576) : Ev (fun k => laws_toInt64S.f k xs) xs :=
  copy_any (L := laws_toInt64S.l0) 35184372088832 (fun _ _ _ _ => rfl) xs (by omega) (by omega)

theorem index_false_ev (fl : List Bool) (n : Nat) (hn : n < fl.length) (hl : fl.length ≤ 9223372036854775806) (h1 : fl[n] = false) (h2 : ∀ m (hm : m < n), fl[m] = true) :
    Ev (fun k => slices_Index_bool_bool.f k fl false) (n : Int) := by
  have main : ∀ (d m : Nat), m + d = n → Ev (fun k => slices_Index_bool_bool.l0 k fl false fl.length (m : Int)) (n : Int) := by
    intro d
    induction d with
    | zero =>
      intro m hm
      obtain rfl : m = n := by omega
      refine Ev_round ?_
      simp only [slices_Index_bool_bool.l0]
      refine Ev_pos (by omega) (Ev_pos (by omega) (Ev_pos (by omega) (Ev_pos ?_ (Ev.now _))))
      simp [rdOf, List.getD_eq_getElem?_getD, List.getElem?_eq_getElem hn, h1]
    | succ d ih =>
      intro m hm
      refine Ev_round ?_
      simp only [slices_Index_bool_bool.l0]
      refine Ev_pos (by omega) (Ev_pos (by omega) (Ev_pos (by omega) (Ev_neg ?_ ?_)))
      · simp [rdOf, List.getD_eq_getElem?_getD, List.getElem?_eq_getElem (show m < fl.length by omega), h2 m (by omega)]
      · rw [w64 (by omega) (by omega)]
        exact ih (m + 1) (by omega)
  exact main n 0 (by omega)

theorem mex_index (l : List Int) : (mexN l < (flags (l.length + 1) l).length) ∧ (∀ h, (flags (l.length + 1) l)[mexN l]'h = false) ∧ ∀ m (hm : m < mexN l) h, (flags (l.length + 1) l)[m]'h = true := by
  have hm := mexN_is l
  have hle := mexN_le l
  refine ⟨by rw [flags_length]; omega, fun h => ?_, fun m hlt h => ?_⟩
  · rw [flags_get]; simp [hm.1]
  · rw [flags_get]; simp [hm.2 m hlt]
theorem impl_mex_ev (l : List Int) (hl : l.length ≤ 140737488355327) (hr : ∀ x ∈ l, 0 ≤ x ∧ x ≤ 65535) : Ev (fun k => impl_mex.f k l) ((mexN l : Nat) : Int) := by
  have main : ∀ (d n : Nat), n + d = l.length → Ev (fun k => impl_mex.l0 k (flags (l.length + 1) (l.take n)) l l.length (n : Int)) ((mexN l : Nat) : Int) := by
    intro d
    induction d with
    | zero =>
      intro n h
      obtain rfl : n = l.length := by omega
      refine Ev_round ?_
      simp only [impl_mex.l0]
      refine Ev_neg (by omega) (Ev.bind ?_ (Ev.now _))
      rw [List.take_length]
      obtain ⟨a, b, c⟩ := mex_index l
      exact index_false_ev _ _ a (by rw [flags_length]; omega) (b a) (fun m hm => c m hm (by omega))
    | succ d ih =>
      intro n h
      have hn : n < l.length := by omega
      have hx := hr _ (List.getElem_mem hn)
      have ht : l.take (n + 1) = l.take n ++ [l[n]] := by rw [List.take_succ_eq_append_getElem hn]
      refine Ev_round ?_
      simp only [impl_mex.l0]
      refine Ev_pos (by omega) (Ev_pos (by omega) (Ev_pos (by omega) ?_))
      rw [rd_nat hn, w64 (by omega) (by omega), w64 (by omega) (by omega), flags_length]
      have nx := ih (n + 1) (by omega)
      rw [ht] at nx
      by_cases c : l[n] < ((l.length + 1 : Nat) : Int)
      · refine Ev_pos c (Ev_pos (by omega) (Ev_pos c ?_))
        rw [flags_set _ _ _ (by omega), Int.toNat_of_nonneg hx.1]
        exact nx
      · refine Ev_neg c ?_
        rw [flags_out _ _ _ (by omega)] at nx
        exact nx
  unfold impl_mex.f
  rw [w64 (by omega) (by omega)]
  refine Ev_pos (by omega) (Ev_pos (by omega) ?_)
  have := main l.length 0 (by omega)
  rw [List.take_zero, flags_nil] at this
  exact this

theorem may_take (t m : Nat) (ht : t ≤ 18446744073709551615) (hm : m ≤ 63) : impl_mayTake.f (t : Int) (m : Int) = some (t.testBit m) := by
  unfold impl_mayTake.f
  rw [if_pos (by omega), if_pos (by omega), bit_u64 t m ht hm]
  by_cases c : t.testBit m = true <;> simp [c]
theorem impl_take_ev (t H : Nat) (ht : t ≤ 18446744073709551615) (hH : H ≤ 500) : Ev (fun k => impl_takeValues.f k (t : Int) (H : Int)) (TV t (H + 1)) := by
  have outer : ∀ (d n : Nat), n + d = H + 1 → Ev (fun k => impl_takeValues.l0 k (t : Int) (TV t n) ((H + 1 : Nat) : Int) (n : Int)) (TV t (H + 1)) := by
    intro d
    induction d with
    | zero =>
      intro n hn
      obtain rfl : n = H + 1 := by omega
      refine Ev_round ?_
      simp only [impl_takeValues.l0]
      exact Ev_neg (by omega) (Ev.now _)
    | succ d ih =>
      intro n hn
      refine Ev_round ?_
      simp only [impl_takeValues.l0]
      refine Ev_pos (by omega) ?_
      have nx := ih (n + 1) (by omega)
      have hmn : mn (n : Int) 63 = ((min n 63 : Nat) : Int) := by unfold mn; split <;> omega
      have inner : ∀ (e m : Nat), m + e = min n 63 → Ev (fun k => impl_takeValues.l1 k (t : Int) (TV t n) (n : Int) (takeTo t (TV t n) n m) ((m + 1 : Nat) : Int) ((H + 1 : Nat) : Int) (n : Int)) (TV t (H + 1)) := by
        intro e
        induction e with
        | zero =>
          intro m hm
          obtain rfl : m = min n 63 := by omega
          refine Ev_round ?_
          simp only [impl_takeValues.l1]
          have hl1 := takeTo_len t (TV t n) n (min n 63)
          have hl2 := takeTo_range t n (min n 63) (by omega)
          have hml := mexN_le (takeTo t (TV t n) n (min n 63))
          rw [hmn]
          refine Ev_neg (by omega) (Ev.bind (impl_mex_ev _ (by omega) (fun x hx => by have := hl2 x hx; omega)) (Ev_pos (by rw [TV_len]; omega) ?_))
          rw [w64 (by omega) (by omega), wu16 (by omega) (by omega)]
          exact nx
        | succ e ihe =>
          intro m hm
          refine Ev_round ?_
          simp only [impl_takeValues.l1]
          have e2 : wrap64 (((m + 1 : Nat) : Int) + 1) = ((m + 1 + 1 : Nat) : Int) := by rw [w64 (by omega) (by omega)]; omega
          have e3 : wrap64 ((n : Int) - ((m + 1 : Nat) : Int)) = ((n - (m + 1) : Nat) : Int) := by rw [w64 (by omega) (by omega)]; omega
          rw [hmn, e2, e3]
          have nx2 := ihe (m + 1) (by omega)
          rw [takeTo_succ] at nx2
          have hl1 := takeTo_len t (TV t n) n m
          refine Ev_pos (by omega) (Ev_bind1 (may_take t (m + 1) ht (by omega)) ?_)
          by_cases c : t.testBit (m + 1) = true
          · rw [if_pos c] at nx2
            exact Ev_pos c (Ev_pos (by omega) (Ev_pos (by rw [TV_len]; omega) (Ev_pos (by omega) nx2)))
          · rw [if_neg c, List.append_nil] at nx2
            exact Ev_neg c nx2
      have := inner (min n 63) 0 (by omega)
      rw [takeTo_zero] at this
      exact this
  have := outer (H + 1) 0 (by omega)
  unfold impl_takeValues.f
  rw [w64 (by omega) (by omega)]
  exact this

theorem impl_sumP_ev (vals l : List Int) (hl : l.length ≤ 1048576) (hp : ∀ p ∈ l, 0 ≤ p ∧ p < (vals.length : Int)) : Ev (fun k => impl_sumAt.f k vals l) (sumP vals l) :=
  fold_loop (L := fun k s i => impl_sumAt.l0 k vals s l l.length i) (f := fun s p => X s (rd vals p)) (fin := id) l (fun _ _ => True)
    (fun k s n h _ => by
      have := hp _ (List.getElem_mem h)
      simp only [impl_sumAt.l0]
      rw [rd_nat h, if_pos (by omega), if_pos (by omega), if_pos (by omega), if_pos this.1, if_pos this.2, w64 (by omega) (by omega)]
      rfl)
    (fun _ _ _ _ => trivial)
    (fun k s _ => by simp only [impl_sumAt.l0]; rw [if_neg (by omega)]; rfl) l.length 0 0 (by omega) trivial

set_option maxHeartbeats 1000000 in
theorem impl_tm_loop (t : Nat) (ht : t ≤ 18446744073709551615) (V : List Int) (hV : V.length = 501) (s : Int) (l : List Int) (hl : l.length ≤ 12) (hp : ∀ p ∈ l, 0 ≤ p ∧ p ≤ 500) :
    ∀ (d i : Nat), i + d = l.length → Ev (fun k => impl_TakeMoves.l0 k (t : Int) V (tmDone t V s l i) s l (l.length : Int) (i : Int)) (tmDone t V s l l.length, 0) := by
  intro d
  induction d with
  | zero =>
    intro i h
    obtain rfl : i = l.length := by omega
    refine Ev_round ?_
    simp only [impl_TakeMoves.l0]
    exact Ev_neg (by omega) (Ev.now _)
  | succ d ih =>
    intro i h
    have hi : i < l.length := by omega
    have hpi := hp _ (List.getElem_mem hi)
    have nx := ih (i + 1) (by omega)
    obtain ⟨H, hH⟩ := Int.eq_ofNat_of_zero_le hpi.1
    have hr : rd l (i : Int) = (H : Int) := by rw [rd_nat hi]; exact hH
    have hH5 : H ≤ 500 := by omega
    have hq3 : H - 63 ≤ H ∧ H - (H - 63) ≤ 63 ∧ ((H : Int) ≤ ((H - 63 : Nat) : Int) + 63) ∧ mx ((H : Int) - 63) 0 = ((H - 63 : Nat) : Int) := ⟨by omega, by omega, by omega, by unfold mx; split <;> omega⟩
    generalize hq : H - 63 = q at hq3
    have HQ := Aside0.mk hq
    have HM := Aside0.mk hq3.2.2.2
    have hqa := hq3.1
    have hqb := hq3.2.1
    have hqc := hq3.2.2.1
    clear hq hq3
    have inner : ∀ (e n : Nat), n + e = H - q → Ev (fun k => impl_TakeMoves.l1 k (t : Int) V (tmDone t V s l i ++ tmRow t V s i H n) s (i : Int) (H : Int) ((q + n : Nat) : Int) l (l.length : Int) (i : Int)) (tmDone t V s l l.length, 0) := by
      intro e
      induction e with
      | zero =>
        intro n hn
        refine Ev_round ?_
        simp only [impl_TakeMoves.l1]
        refine Ev_neg (by omega) ?_
        rw [w64 (by omega) (by omega)]
        have e1 : tmDone t V s l (i + 1) = tmDone t V s l i ++ tmRow t V s i H n := by
          rw [tmDone_succ, hr, Int.toNat_natCast, HQ.out, show n = H - q by omega]
        rw [e1] at nx
        exact nx
      | succ e ihe =>
        intro n hn
        refine Ev_round ?_
        simp only [impl_TakeMoves.l1]
        have nx2 := ihe (n + 1) (by omega)
        rw [tmRow_succ, HQ.out] at nx2
        have e1 : wrap64 ((H : Int) - ((q + n : Nat) : Int)) = ((H - (q + n) : Nat) : Int) := by
          rw [w64 (by omega) (by omega)]; omega
        have e2 : wrap64 (((q + n : Nat) : Int) + 1) = ((q + (n + 1) : Nat) : Int) := by rw [w64 (by omega) (by omega)]; omega
        rw [e1, e2]
        clear e1 e2
        have h1 := tmDone_len t V s l i
        have h2 := tmRow_len t V s i H n
        have hlen : (tmDone t V s l i ++ tmRow t V s i H n).length < 8796093022208 := by rw [List.length_append]; omega
        have g1 : (0 : Int) ≤ (H : Int) ∧ (H : Int) < (V.length : Int) ∧ (0 : Int) ≤ ((q + n : Nat) : Int) ∧ ((q + n : Nat) : Int) < (V.length : Int) := by omega
        refine Ev_pos (by omega) (Ev_bind1 (may_take t (H - (q + n)) ht (Nat.le_trans (Nat.sub_le_sub_left (Nat.le_add_right q n) H) hqb)) ?_)
        by_cases c : t.testBit (H - (q + n)) = true
        · refine Ev_pos c (Ev_pos g1.1 (Ev_pos g1.2.1 (Ev_pos g1.2.2.1 (Ev_pos g1.2.2.2 ?_))))
          by_cases c2 : X (X s (rd V (H : Int))) (rd V ((q + n : Nat) : Int)) = 0
          · rw [if_pos (by unfold tmWin; rw [c, decide_eq_true c2]; rfl), ← List.append_assoc] at nx2
            exact Ev_pos c2 (Ev_pos hlen nx2)
          · rw [if_neg (by unfold tmWin; rw [c, decide_eq_false c2]; decide), List.append_nil] at nx2
            exact Ev_neg c2 nx2
        · rw [if_neg (by unfold tmWin; rw [Bool.eq_false_iff.mpr c]; simp), List.append_nil] at nx2
          exact Ev_neg c nx2
    have hin := inner (H - q) 0 (by omega)
    rw [tmRow_zero, List.append_nil, Nat.add_zero] at hin
    refine Ev_round ?_
    simp only [impl_TakeMoves.l0]
    refine Ev_pos (by omega) (Ev_pos (by omega) (Ev_pos (by omega) ?_))
    rw [hr, w64 (by omega) (by omega)]
    rw [HM.out]
    exact hin
theorem bad_all (l : List Int) : l.any slices_ContainsFunc_int64_int64.bad = !(l.all okHeap) := by
  induction l with
  | nil => rfl
  | cons x t ih => rw [List.any_cons, List.all_cons, ih, Bool.not_and]; rfl
theorem impl_tm_ev (t : Nat) (ht : t ≤ 18446744073709551615) (l : List Int) : Ev (fun k => impl_TakeMoves.f k (t : Int) l) (tmR t l) := by
  unfold tmR impl_TakeMoves.f
  rw [and1_u64 (by omega) (by omega)]
  by_cases c0 : l.length > 12
  · rw [if_pos c0]
    exact Ev_pos (by omega) (Ev.now _)
  rw [if_neg c0]
  refine Ev_neg (by omega) ?_
  by_cases c1 : t % 2 = 1
  · rw [if_pos c1]
    exact Ev_pos (by omega) (Ev.now _)
  rw [if_neg c1]
  refine Ev_neg (by omega) (Ev_bind1 (a := !(l.all okHeap)) (by unfold slices_ContainsFunc_int64_int64.f; rw [bad_all]) ?_)
  by_cases c2 : l.all okHeap = true
  · rw [if_pos c2]
    have hp := tm_heaps c2
    exact Ev_neg (by simp [c2]) (Ev.bind (impl_take_ev t 500 ht (by omega)) (Ev.bind (impl_sumP_ev (TV t 501) l (by omega) (fun p hm => by have := hp p hm; rw [TV_len]; omega)) (impl_tm_loop t ht (TV t 501) (TV_len _ _) _ l (by omega) hp l.length 0 (by omega))))
  · rw [if_neg c2]
    exact Ev_pos (by simp [c2]) (Ev.now _)
theorem tmR_len (t : Nat) (l : List Int) : (tmR t l).1.length ≤ 1000 := by
  unfold tmR
  by_cases c0 : l.length > 12
  · rw [if_pos c0]; simp
  rw [if_neg c0]
  have := tmDone_len t (TV t 501) (sumP (TV t 501) l) l l.length
  split
  · simp
  · split
    · show (tmDone t (TV t 501) (sumP (TV t 501) l) l l.length).length ≤ 1000
      omega
    · simp

theorem rdP {xs : List S46} {n : Nat} (h : n < xs.length) : rd_T46 xs (n : Int) = xs[n] := by simp [rd_T46, List.getD_eq_getElem?_getD, List.getElem?_eq_getElem h]
theorem eqPairs_ev (xs : List S46) (hn : xs.length ≤ 1099511627776) : Ev (fun k => laws_eqInt64A2S.f k xs xs) true := by
  have main : ∀ (d n : Nat), n + d = xs.length → Ev (fun k => laws_eqInt64A2S.l0 k xs xs (n : Int)) true := by
    intro d
    induction d with
    | zero =>
      intro n h
      refine Ev_round ?_
      simp only [laws_eqInt64A2S.l0]
      exact Ev_neg (by omega) (Ev.now _)
    | succ d ih =>
      intro n h
      refine Ev_round ?_
      simp only [laws_eqInt64A2S.l0]
      refine Ev_pos (by omega) (Ev_pos (by omega) (Ev_pos (by omega) (Ev_bind1 (a := true) (by unfold laws_eqInt64A2.f; rw [if_pos rfl, if_pos rfl]) (Ev_pos rfl ?_))))
      rw [w64 (by omega) (by omega)]
      exact ih (n + 1) (by omega)
  exact Ev_pos rfl (main xs.length 0 (by omega))

theorem eqInt64S_ev (xs ys : List Int) (hn : xs.length ≤ 140737488355328) : Ev (fun k => laws_eqInt64S.f k xs ys) (decide (xs = ys)) :=
  eq_all (L := laws_eqInt64S.l0) (fun _ _ _ _ => rfl) xs ys (by omega)

theorem markInt64S_ev (xs : List Int) (hn : xs.length ≤ 1048576) : ∃ ys, ys.length = xs.length ∧ Ev (fun k => laws_markInt64S.f k xs 1) (1 + (xs.length : Int), ys) := by
  have main : ∀ (d n : Nat) (ys : List Int), n + d = ys.length → ys.length = xs.length → ∃ zs, zs.length = xs.length ∧ Ev (fun k => laws_markInt64S.l0 k ys (1 + (n : Int)) (n : Int)) (1 + (xs.length : Int), zs) := by
    intro d
    induction d with
    | zero =>
      intro n ys h1 h2
      refine ⟨ys, h2, Ev_round ?_⟩
      simp only [laws_markInt64S.l0]
      exact Ev_neg (by omega) (Ev_as (Ev.now _) (by rw [show n = xs.length by omega]))
    | succ d ih =>
      intro n ys h1 h2
      obtain ⟨zs, hz, he⟩ := ih (n + 1) (ys.set n (1 + (n : Int))) (by simp; omega) (by simpa using h2)
      refine ⟨zs, hz, Ev_round ?_⟩
      simp only [laws_markInt64S.l0]
      refine Ev_pos (by omega) (Ev_pos (by omega) ?_)
      rw [w64 (by omega) (by omega), w64 (by omega) (by omega), Int.toNat_natCast]
      rw [show 1 + (n : Int) + 1 = 1 + ((n + 1 : Nat) : Int) by omega]
      exact he
  exact main xs.length 0 xs (by omega) rfl

theorem marked_len (n : Nat) (k0 : Int) : (laws_markInt64A2S.marked n k0).length = n := by simp [laws_markInt64A2S.marked]
theorem markPairs (xs : List S46) (hn : xs.length ≤ 1099511627776) : laws_markInt64A2S.f xs 1 = some (1 + (xs.length : Int) * 2, laws_markInt64A2S.marked xs.length 1) := by
  unfold laws_markInt64A2S.f
  rw [if_pos (by omega), if_pos (by omega), if_pos (by omega)]

theorem heldPairs (n : Nat) (hn : n ≤ 1099511627776) : laws_heldInt64A2S.f (laws_markInt64A2S.marked n 1) 1 = some (1 + (n : Int) * 2, laws_markInt64A2S.marked n 1) := by
  unfold laws_heldInt64A2S.f
  rw [marked_len, if_pos (by simp [laws_markInt64A2S.marked, Go.Proofs.Yteinllalhiflcaa.Pairs.marks]), if_pos (by omega), if_pos (by omega), if_pos (by omega)]

theorem FnExactTakeMoves : laws_FnExactTakeMoves.Pure := by
  intro t l wt _ _ _
  obtain ⟨h0, h1⟩ := wf_u64 wt
  obtain ⟨T, rfl⟩ := Int.eq_ofNat_of_zero_le h0
  by_cases hb : (l.length : Int) > 1048576
  · exact ⟨0, if_pos hb⟩
  refine Ev.rounds (r := true) (Ev_neg hb ?_)
  have hs := spec_tm_ev T (by omega) l
  have hi := impl_tm_ev T (by omega) l
  have hl := tmR_len T l
  have hto := toInt64S_ev l (by omega)
  obtain ⟨ys, hy, hm⟩ := markInt64S_ev l (by omega)
  generalize tmR T l = R at *
  obtain ⟨L, c⟩ := R
  simp only at hl
  have hq := eqPairs_ev L (by omega)
  refine Ev.bind hto (Ev.bind hs (Ev.bind hto (Ev.bind hi (Ev.bind hq (Ev_pos rfl (Ev_round ?_))))))
  simp only [laws_FnExactTakeMoves.j0]
  refine Ev_neg (by simp) (Ev.bind hto (Ev.bind (eqInt64S_ev l l (by omega)) (Ev_pos (by simp) (Ev.bind hm (Ev_neg (by simp only; omega) (Ev.bind hq (Ev_pos rfl (Ev_round ?_))))))))
  simp only [laws_FnExactTakeMoves.j1]
  refine Ev_neg (by simp) (Ev_bind1 (markPairs L (by omega)) (Ev_bind1 (heldPairs L.length (by omega)) (Ev_neg (by simp only; omega) (Ev_pos rfl ?_))))
  refine Ev.bind hto (Ev.bind hi (Ev.bind hq (Ev_pos rfl (Ev_round ?_))))
  simp only [laws_FnExactTakeMoves.j2]
  exact Ev_neg (by simp) (Ev_bind1 (heldPairs L.length (by omega)) (Ev_neg (by simp only; omega) (Ev_pos rfl (Ev.now _))))

end Go.Proofs.Yteinllalhiflcaa.Pure
