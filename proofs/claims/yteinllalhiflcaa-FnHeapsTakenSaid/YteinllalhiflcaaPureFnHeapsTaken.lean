/- FnHeapsTaken: the printed pure statement holds: at every input the law's function answers true; no condition but the bounds of its kinds. -/
import Derived.Test.YteinllalhiflcaaQFnHeapsTakenx9
import Derived.Test.YteinllalhiflcaaLib
import Derived.Test.YteinllalhiflcaaLib3
import Derived.Test.YteinllalhiflcaaLib4
set_option linter.unusedVariables false
set_option linter.unusedSimpArgs false
namespace Go.Proofs.Yteinllalhiflcaa.Pure
open Go.RowKit Go.Proofs.Yteinllalhiflcaa.QFnHeapsTaken Go.Proofs.YteinllalhiflcaaW.PrintWords Go.Proofs.YteinllalhiflcaaW.PrintLast Go.Proofs.Yteinllalhiflcaa.Lib

theorem least_ev (l : List Int) (hl : l.length ≤ 65535) (hr : ∀ x ∈ l, 0 ≤ x ∧ x ≤ 65535) : Ev (fun k => spec_l03Least.f k l) ((mexN l : Nat) : Int) := by
  have hm := mexN_is l
  have hle := mexN_le l
  have last : ∀ (d n : Nat), n + d = mexN l → Ev (fun k => spec_l03Least.l1 k (flags (l.length + 1) l) (n : Int)) ((mexN l : Nat) : Int) := by
    intro d
    induction d with
    | zero =>
      intro n h
      obtain rfl : n = mexN l := by omega
      refine Ev_round ?_
      simp only [spec_l03Least.l1]
      refine Ev_pos (by omega) (Ev_pos (by rw [flags_length]; omega) (Ev_neg ?_ ?_))
      · rw [rdOf, List.getD_eq_getElem?_getD, List.getElem?_eq_getElem (by rw [Int.toNat_natCast, flags_length]; omega), Option.getD_some, flags_get]
        simp [hm.1]
      · rw [wu16 (by omega) (by omega)]
        exact Ev.now _
    | succ d ih =>
      intro n h
      refine Ev_round ?_
      simp only [spec_l03Least.l1]
      refine Ev_pos (by omega) (Ev_pos (by rw [flags_length]; omega) (Ev_pos ?_ ?_))
      · rw [rdOf, List.getD_eq_getElem?_getD, List.getElem?_eq_getElem (by rw [Int.toNat_natCast, flags_length]; omega), Option.getD_some, flags_get]
        simp [hm.2 n (by omega)]
      · rw [w64 (by omega) (by omega)]
        exact ih (n + 1) (by omega)
  have main : ∀ (d n : Nat), n + d = l.length → Ev (fun k => spec_l03Least.l0 k l (flags (l.length + 1) (l.take n)) (n : Int)) ((mexN l : Nat) : Int) := by
    intro d
    induction d with
    | zero =>
      intro n h
      obtain rfl : n = l.length := by omega
      refine Ev_round ?_
      simp only [spec_l03Least.l0]
      refine Ev_neg (by omega) ?_
      rw [List.take_length]
      exact last (mexN l) 0 (by omega)
    | succ d ih =>
      intro n h
      have hn : n < l.length := by omega
      have hx := hr _ (List.getElem_mem hn)
      have ht : l.take (n + 1) = l.take n ++ [l[n]] := by rw [List.take_succ_eq_append_getElem hn]
      refine Ev_round ?_
      simp only [spec_l03Least.l0]
      refine Ev_pos (by omega) (Ev_pos (by omega) ?_)
      rw [rd_nat hn, w64 (by omega) (by omega), w64 (by omega) (by omega), flags_length]
      have nx := ih (n + 1) (by omega)
      rw [ht] at nx
      by_cases c : l[n] < ((l.length + 1 : Nat) : Int)
      · refine Ev_pos c (Ev_pos (by omega) (Ev_pos c ?_))
        rw [flags_set _ _ _ (by omega), Int.toNat_of_nonneg hx.1]
        exact nx
      · refine Ev_neg c ?_
        rw [flags_out _ _ _ (by omega)] at nx
        exact nx
  unfold spec_l03Least.f
  rw [w64 (by omega) (by omega)]
  refine Ev_pos (by omega) (Ev_pos (by omega) ?_)
  have := main l.length 0 (by omega)
  rw [List.take_zero, flags_nil] at this
  exact this

theorem spec_take_ev (t H : Nat) (ht : t ≤ 18446744073709551615) (hH : H ≤ 500) : Ev (fun k => spec_l03Take.f k (t : Int) (H : Int)) (TV t (H + 1)) := by
  have outer : ∀ (d n : Nat), n + d = H + 1 → Ev (fun k => spec_l03Take.l0 k (t : Int) (H : Int) (TV t n) (n : Int)) (TV t (H + 1)) := by
    intro d
    induction d with
    | zero =>
      intro n hn
      obtain rfl : n = H + 1 := by omega
      refine Ev_round ?_
      simp only [spec_l03Take.l0]
      exact Ev_neg (by omega) (Ev.now _)
    | succ d ih =>
      intro n hn
      refine Ev_round ?_
      simp only [spec_l03Take.l0]
      refine Ev_pos (by omega) ?_
      have nx := ih (n + 1) (by omega)
      have inner : ∀ (e m : Nat), m + e = min n 63 → Ev (fun k => spec_l03Take.l1 k (t : Int) (H : Int) (TV t n) (n : Int) (takeTo t (TV t n) n m) ((m + 1 : Nat) : Int)) (TV t (H + 1)) := by
        intro e
        induction e with
        | zero =>
          intro m hm
          obtain rfl : m = min n 63 := by omega
          refine Ev_round ?_
          simp only [spec_l03Take.l1]
          have hl1 := takeTo_len t (TV t n) n (min n 63)
          have hl2 := takeTo_range t n (min n 63) (by omega)
          have fin : ∀ b, b = false → Ev (fun k => spec_l03Take.j2 k (t : Int) (H : Int) (TV t n) (n : Int) (takeTo t (TV t n) n (min n 63)) ((min n 63 + 1 : Nat) : Int) b) (TV t (H + 1)) := by
            intro b hb
            refine Ev_round ?_
            simp only [spec_l03Take.j2]
            refine Ev_neg (by simp [hb]) (Ev.bind (least_ev _ (by omega) (fun x hx => by have := hl2 x hx; omega)) (Ev_pos (by rw [TV_len]; omega) ?_))
            rw [w64 (by omega) (by omega)]
            exact nx
          exact Ev_ite' (fun c => fin _ (by apply decide_eq_false; omega)) (fun c => fin _ rfl)
        | succ e ihe =>
          intro m hm
          refine Ev_round ?_
          simp only [spec_l03Take.l1]
          refine Ev_pos (by omega) (Ev_round ?_)
          simp only [spec_l03Take.j2]
          have e1 : IntKind.u64.wrap ((m + 1 : Nat) : Int) = ((m + 1 : Nat) : Int) := wu64 (by omega) (by omega)
          have e2 : wrap64 (((m + 1 : Nat) : Int) + 1) = ((m + 1 + 1 : Nat) : Int) := by rw [w64 (by omega) (by omega)]; omega
          have e3 : wrap64 ((n : Int) - ((m + 1 : Nat) : Int)) = ((n - (m + 1) : Nat) : Int) := by rw [w64 (by omega) (by omega)]; omega
          rw [e1, e2, e3, bit_u64 t (m + 1) ht (by omega)]
          have nx2 := ihe (m + 1) (by omega)
          rw [takeTo_succ] at nx2
          have hl1 := takeTo_len t (TV t n) n m
          refine Ev_pos (by simp; omega) (Ev_pos (by omega) ?_)
          by_cases c : t.testBit (m + 1) = true
          · rw [if_pos c] at nx2
            exact Ev_pos (by simp [c]) (Ev_pos (by omega) (Ev_pos (by rw [TV_len]; omega) (Ev_pos (by omega) nx2)))
          · rw [if_neg c, List.append_nil] at nx2
            exact Ev_neg (by simp [c]) nx2
      have := inner (min n 63) 0 (by omega)
      rw [takeTo_zero] at this
      exact this
  exact outer (H + 1) 0 (by omega)

/-- The sum of the values of places. -/
def sumP (vals l : List Int) : Int := l.foldl (fun s p => X s (rd vals p)) 0
theorem spec_sumP_ev (vals l : List Int) (hl : l.length ≤ 1048576) (hp : ∀ p ∈ l, 0 ≤ p ∧ p < (vals.length : Int)) : Ev (fun k => spec_l03Sum.f k vals l) (sumP vals l) :=
  fold_loop (L := fun k s i => spec_l03Sum.l0 k vals l s i) (f := fun s p => X s (rd vals p)) (fin := id) l (fun _ _ => True)
    (fun k s n h _ => by
      have := hp _ (List.getElem_mem h)
      simp only [spec_l03Sum.l0]
      rw [rd_nat h, if_pos (by omega), if_pos (by omega), if_pos this.1, if_pos this.2, w64 (by omega) (by omega)]
      rfl)
    (fun _ _ _ _ => trivial)
    (fun k s _ => by simp only [spec_l03Sum.l0]; rw [if_neg (by omega)]; rfl) l.length 0 0 (by omega) trivial

/-- Does the move from h to l make the sum 0? -/
def tmWin (t : Nat) (V : List Int) (s : Int) (h l : Nat) : Bool := t.testBit (h - l) && decide (X (X s (rd V h)) (rd V l) = 0)
def tmRow (t : Nat) (V : List Int) (s : Int) (i h n : Nat) : List S46 := ((List.range' (h - 63) n).filter fun l => tmWin t V s h l).map fun (l : Nat) => ⟨(i : Int), (l : Int)⟩
theorem tmRow_zero (t : Nat) (V : List Int) (s : Int) (i h : Nat) : tmRow t V s i h 0 = [] := by simp [tmRow]
theorem tmRow_succ (t : Nat) (V : List Int) (s : Int) (i h n : Nat) : tmRow t V s i h (n + 1) = tmRow t V s i h n ++ (if tmWin t V s h (h - 63 + n) then [⟨(i : Int), ((h - 63 + n : Nat) : Int)⟩] else []) := by
  unfold tmRow
  rw [List.range'_1_concat, List.filter_append, List.map_append]
  congr 1
  by_cases c : tmWin t V s h (h - 63 + n) = true
  · simp [c]
  · simp [c]
theorem tmRow_len (t : Nat) (V : List Int) (s : Int) (i h n : Nat) : (tmRow t V s i h n).length ≤ n := by
  unfold tmRow
  rw [List.length_map]
  have := List.length_filter_le (fun l => tmWin t V s h l) (List.range' (h - 63) n)
  simpa using this
/-- The moves that win from the first i heaps. -/
def tmDone (t : Nat) (V : List Int) (s : Int) (l : List Int) : Nat → List S46
  | 0 => []
  | i + 1 => tmDone t V s l i ++ tmRow t V s i (rd l i).toNat ((rd l i).toNat - ((rd l i).toNat - 63))
theorem tmDone_succ (t : Nat) (V : List Int) (s : Int) (l : List Int) (i : Nat) : tmDone t V s l (i + 1) = tmDone t V s l i ++ tmRow t V s i (rd l i).toNat ((rd l i).toNat - ((rd l i).toNat - 63)) := rfl
theorem tmDone_len (t : Nat) (V : List Int) (s : Int) (l : List Int) : ∀ i, (tmDone t V s l i).length ≤ i * 63 := by
  intro i
  induction i with
  | zero => simp [tmDone]
  | succ i ih =>
    unfold tmDone
    rw [List.length_append]
    have := tmRow_len t V s i (rd l i).toNat ((rd l i).toNat - ((rd l i).toNat - 63))
    omega
def okHeap (p : Int) : Bool := decide (0 ≤ p) && decide (p ≤ 500)
/-- What TakeMoves tells. -/
def tmR (t : Nat) (l : List Int) : List S46 × Int :=
  if l.length > 12 then ([], 3) else if t % 2 = 1 then ([], 2) else if l.all okHeap = true then (tmDone t (TV t 501) (sumP (TV t 501) l) l l.length, 0) else ([], 2)
theorem tm_heaps {l : List Int} (h : l.all okHeap = true) : ∀ p ∈ l, 0 ≤ p ∧ p ≤ 500 := fun p hp => by
  have := List.all_eq_true.1 h p hp
  simpa [okHeap] using this
set_option maxHeartbeats 1000000 in
theorem spec_tm_loop (t : Nat) (ht : t ≤ 18446744073709551615) (V : List Int) (hV : V.length = 501) (s : Int) (l : List Int) (hl : l.length ≤ 12) (hp : ∀ p ∈ l, 0 ≤ p ∧ p ≤ 500) :
    ∀ (d i : Nat), i + d = l.length → Ev (fun k => spec_TakeMoves.l1 k (t : Int) l V s (tmDone t V s l i) (i : Int)) (tmDone t V s l l.length, 0) := by
  intro d
  induction d with
  | zero =>
    intro i h
    obtain rfl : i = l.length := by omega
    refine Ev_round ?_
    simp only [spec_TakeMoves.l1]
    exact Ev_neg (by omega) (Ev.now _)
  | succ d ih =>
    intro i h
    have hi : i < l.length := by omega
    have hpi := hp _ (List.getElem_mem hi)
    have nx := ih (i + 1) (by omega)
    obtain ⟨H, hH⟩ := Int.eq_ofNat_of_zero_le hpi.1
    have hr : rd l (i : Int) = (H : Int) := by rw [rd_nat hi]; exact hH
    have hH5 : H ≤ 500 := by omega
    have hq3 : H - 63 ≤ H ∧ H - (H - 63) ≤ 63 ∧ ((H : Int) ≤ ((H - 63 : Nat) : Int) + 63) ∧ mx ((H : Int) - 63) 0 = ((H - 63 : Nat) : Int) := ⟨by omega, by omega, by omega, by unfold mx; split <;> omega⟩
    generalize hq : H - 63 = q at hq3
    have HQ := Aside0.mk hq
    have HM := Aside0.mk hq3.2.2.2
    have hqa := hq3.1
    have hqb := hq3.2.1
    have hqc := hq3.2.2.1
    clear hq hq3
    have inner : ∀ (e n : Nat), n + e = H - q → Ev (fun k => spec_TakeMoves.l2 k (t : Int) l V s (tmDone t V s l i ++ tmRow t V s i H n) (i : Int) ((q + n : Nat) : Int)) (tmDone t V s l l.length, 0) := by
      intro e
      induction e with
      | zero =>
        intro n hn
        refine Ev_round ?_
        simp only [spec_TakeMoves.l2]
        rw [hr]
        refine Ev_pos (by omega) (Ev_pos (by omega) (Ev_neg (by omega) ?_))
        rw [w64 (by omega) (by omega)]
        have e1 : tmDone t V s l (i + 1) = tmDone t V s l i ++ tmRow t V s i H n := by
          rw [tmDone_succ, hr, Int.toNat_natCast, HQ.out, show n = H - q by omega]
        rw [e1] at nx
        exact nx
      | succ e ihe =>
        intro n hn
        refine Ev_round ?_
        simp only [spec_TakeMoves.l2]
        rw [hr]
        have nx2 := ihe (n + 1) (by omega)
        rw [tmRow_succ, HQ.out] at nx2
        have e1 : IntKind.u64.wrap (wrap64 ((H : Int) - ((q + n : Nat) : Int))) = ((H - (q + n) : Nat) : Int) := by
          rw [w64 (by omega) (by omega), wu64 (by omega) (by omega)]; omega
        have e2 : wrap64 (((q + n : Nat) : Int) + 1) = ((q + (n + 1) : Nat) : Int) := by rw [w64 (by omega) (by omega)]; omega
        have e3 := bit_u64 t (H - (q + n)) ht (Nat.le_trans (Nat.sub_le_sub_left (Nat.le_add_right q n) H) hqb)
        rw [e1, e2, e3]
        clear e1 e2 e3
        have h1 := tmDone_len t V s l i
        have h2 := tmRow_len t V s i H n
        have hlen : (tmDone t V s l i ++ tmRow t V s i H n).length < 8796093022208 := by rw [List.length_append]; omega
        have g1 : (0 : Int) ≤ (H : Int) ∧ (H : Int) < (V.length : Int) ∧ (0 : Int) ≤ ((q + n : Nat) : Int) ∧ ((q + n : Nat) : Int) < (V.length : Int) := by omega
        refine Ev_pos (by omega) (Ev_pos (by omega) (Ev_pos (by omega) (Ev_pos (by omega) ?_)))
        by_cases c : t.testBit (H - (q + n)) = true
        · refine Ev_pos (by simp [c]) (Ev_pos g1.1 (Ev_pos g1.2.1 (Ev_pos g1.2.2.1 (Ev_pos g1.2.2.2 ?_))))
          by_cases c2 : X (X s (rd V (H : Int))) (rd V ((q + n : Nat) : Int)) = 0
          · rw [if_pos (by unfold tmWin; rw [c, decide_eq_true c2]; rfl), ← List.append_assoc] at nx2
            exact Ev_pos c2 (Ev_pos hlen nx2)
          · rw [if_neg (by unfold tmWin; rw [c, decide_eq_false c2]; decide), List.append_nil] at nx2
            exact Ev_neg c2 nx2
        · rw [if_neg (by unfold tmWin; rw [Bool.eq_false_iff.mpr c]; simp), List.append_nil] at nx2
          exact Ev_neg (by simp [c]) nx2
    have hin := inner (H - q) 0 (by omega)
    rw [tmRow_zero, List.append_nil, Nat.add_zero] at hin
    refine Ev_round ?_
    simp only [spec_TakeMoves.l1]
    refine Ev_pos (by omega) (Ev_pos (by omega) ?_)
    rw [hr, w64 (by omega) (by omega)]
    refine Ev_bind1 (a := ((q : Nat) : Int)) ?_ hin
    unfold spec_l00Max.f
    by_cases c : (0 : Int) > (H : Int) - 63
    · rw [if_pos c]; congr 1; have := HQ.out; omega
    · rw [if_neg c]; congr 1; have := HQ.out; omega
theorem spec_tm_ev (t : Nat) (ht : t ≤ 18446744073709551615) (l : List Int) : Ev (fun k => spec_TakeMoves.f k (t : Int) l) (tmR t l) := by
  unfold tmR
  by_cases c0 : l.length > 12
  · rw [if_pos c0]
    exact Ev_pos (by omega) (Ev.now _)
  rw [if_neg c0]
  refine Ev_neg (by omega) ?_
  have main : ∀ (b : Bool), b = (decide (t % 2 = 0) && l.all okHeap) → Ev (fun k => spec_TakeMoves.j1 k (t : Int) l b) (if t % 2 = 1 then ([], 2) else if l.all okHeap = true then (tmDone t (TV t 501) (sumP (TV t 501) l) l l.length, 0) else ([], 2)) := by
    intro b hb
    refine Ev_round ?_
    simp only [spec_TakeMoves.j1]
    by_cases c1 : t % 2 = 1
    · rw [if_pos c1]
      exact Ev_neg (by rw [hb]; simp; omega) (Ev.now _)
    · rw [if_neg c1]
      by_cases c2 : l.all okHeap = true
      · rw [if_pos c2]
        have hp := tm_heaps c2
        exact Ev_pos (by rw [hb]; simp [c2]; omega) (Ev.bind (spec_take_ev t 500 ht (by omega)) (Ev.bind (spec_sumP_ev (TV t 501) l (by omega) (fun p hm => by have := hp p hm; rw [TV_len]; omega)) (spec_tm_loop t ht (TV t 501) (TV_len _ _) _ l (by omega) hp l.length 0 (by omega))))
      · rw [if_neg c2]
        exact Ev_neg (by rw [hb]; simp [c2]) (Ev.now _)
  have loop : ∀ (d n : Nat) (b : Bool), n + d = l.length → b = (decide (t % 2 = 0) && (l.take n).all okHeap) → Ev (fun k => spec_TakeMoves.l0 k (t : Int) l b (n : Int)) (if t % 2 = 1 then ([], 2) else if l.all okHeap = true then (tmDone t (TV t 501) (sumP (TV t 501) l) l l.length, 0) else ([], 2)) := by
    intro d
    induction d with
    | zero =>
      intro n b h hb
      refine Ev_round ?_
      simp only [spec_TakeMoves.l0]
      refine Ev_neg (by omega) (main b ?_)
      rw [hb, List.take_of_length_le (by omega)]
    | succ d ih =>
      intro n b h hb
      refine Ev_round ?_
      simp only [spec_TakeMoves.l0]
      refine Ev_pos (by omega) ?_
      cases b with
      | true =>
        have hn : n < l.length := by omega
        refine Ev_pos rfl (Ev_pos (by omega) ?_)
        rw [w64 (by omega) (by omega), rd_nat hn]
        refine Ev_bind1 (a := okHeap l[n]) (by unfold spec_l03Heap.f spec_l00In.f okHeap; by_cases c : l[n] ≥ 0 <;> simp [c]) ?_
        refine ih (n + 1) _ (by omega) ?_
        rw [List.take_succ_eq_append_getElem hn, List.all_append]
        have hb' := hb.symm
        rw [Bool.and_eq_true] at hb'
        rw [hb'.1, hb'.2]
        simp
      | false =>
        refine Ev_neg (by simp) (main false ?_)
        cases hh : decide (t % 2 = 0) with
        | false => rfl
        | true =>
          rw [hh] at hb
          have h1 : (l.take n).all okHeap = false := by simpa using hb.symm
          rw [← List.take_append_drop n l, List.all_append, h1]
          rfl
  have := loop l.length 0 ((Go.bits .and .u64 (t : Int) 1) == 0) (by omega) (by
    rw [and1_u64 (by omega) (by omega)]
    simp only [List.take_zero, List.all_nil, Bool.and_true]
    rw [Bool.eq_iff_iff]
    simp
    omega)
  exact this

theorem index_false_ev (fl : List Bool) (n : Nat) (hn : n < fl.length) (hl : fl.length ≤ 9223372036854775806) (h1 : fl[n] = false) (h2 : ∀ m (hm : m < n), fl[m] = true) :
    Ev (fun k => slices_Index_bool_bool.f k fl false) (n : Int) := by
  have main : ∀ (d m : Nat), m + d = n → Ev (fun k => slices_Index_bool_bool.l0 k fl false fl.length (m : Int)) (n : Int) := by
    intro d
    induction d with
    | zero =>
      intro m hm
      obtain rfl : m = n := by omega
      refine Ev_round ?_
      simp only [slices_Index_bool_bool.l0]
      refine Ev_pos (by omega) (Ev_pos (by omega) (Ev_pos (by omega) (Ev_pos ?_ (Ev.now _))))
      simp [rdOf, List.getD_eq_getElem?_getD, List.getElem?_eq_getElem hn, h1]
    | succ d ih =>
      intro m hm
      refine Ev_round ?_
      simp only [slices_Index_bool_bool.l0]
      refine Ev_pos (by omega) (Ev_pos (by omega) (Ev_pos (by omega) (Ev_neg ?_ ?_)))
      · simp [rdOf, List.getD_eq_getElem?_getD, List.getElem?_eq_getElem (show m < fl.length by omega), h2 m (by omega)]
      · rw [w64 (by omega) (by omega)]
        exact ih (m + 1) (by omega)
  exact main n 0 (by omega)

theorem mex_index (l : List Int) : (mexN l < (flags (l.length + 1) l).length) ∧ (∀ h, (flags (l.length + 1) l)[mexN l]'h = false) ∧ ∀ m (hm : m < mexN l) h, (flags (l.length + 1) l)[m]'h = true := by
  have hm := mexN_is l
  have hle := mexN_le l
  refine ⟨by rw [flags_length]; omega, fun h => ?_, fun m hlt h => ?_⟩
  · rw [flags_get]; simp [hm.1]
  · rw [flags_get]; simp [hm.2 m hlt]
theorem impl_mex_ev (l : List Int) (hl : l.length ≤ 140737488355327) (hr : ∀ x ∈ l, 0 ≤ x ∧ x ≤ 65535) : Ev (fun k => impl_mex.f k l) ((mexN l : Nat) : Int) := by
  have main : ∀ (d n : Nat), n + d = l.length → Ev (fun k => impl_mex.l0 k (flags (l.length + 1) (l.take n)) l l.length (n : Int)) ((mexN l : Nat) : Int) := by
    intro d
    induction d with
    | zero =>
      intro n h
      obtain rfl : n = l.length := by omega
      refine Ev_round ?_
      simp only [impl_mex.l0]
      refine Ev_neg (by omega) (Ev.bind ?_ (Ev.now _))
      rw [List.take_length]
      obtain ⟨a, b, c⟩ := mex_index l
      exact index_false_ev _ _ a (by rw [flags_length]; omega) (b a) (fun m hm => c m hm (by omega))
    | succ d ih =>
      intro n h
      have hn : n < l.length := by omega
      have hx := hr _ (List.getElem_mem hn)
      have ht : l.take (n + 1) = l.take n ++ [l[n]] := by rw [List.take_succ_eq_append_getElem hn]
      refine Ev_round ?_
      simp only [impl_mex.l0]
      refine Ev_pos (by omega) (Ev_pos (by omega) (Ev_pos (by omega) ?_))
      rw [rd_nat hn, w64 (by omega) (by omega), w64 (by omega) (by omega), flags_length]
      have nx := ih (n + 1) (by omega)
      rw [ht] at nx
      by_cases c : l[n] < ((l.length + 1 : Nat) : Int)
      · refine Ev_pos c (Ev_pos (by omega) (Ev_pos c ?_))
        rw [flags_set _ _ _ (by omega), Int.toNat_of_nonneg hx.1]
        exact nx
      · refine Ev_neg c ?_
        rw [flags_out _ _ _ (by omega)] at nx
        exact nx
  unfold impl_mex.f
  rw [w64 (by omega) (by omega)]
  refine Ev_pos (by omega) (Ev_pos (by omega) ?_)
  have := main l.length 0 (by omega)
  rw [List.take_zero, flags_nil] at this
  exact this

theorem may_take (t m : Nat) (ht : t ≤ 18446744073709551615) (hm : m ≤ 63) : impl_mayTake.f (t : Int) (m : Int) = some (t.testBit m) := by
  unfold impl_mayTake.f
  rw [if_pos (by omega), if_pos (by omega), bit_u64 t m ht hm]
  by_cases c : t.testBit m = true <;> simp [c]
theorem impl_take_ev (t H : Nat) (ht : t ≤ 18446744073709551615) (hH : H ≤ 500) : Ev (fun k => impl_takeValues.f k (t : Int) (H : Int)) (TV t (H + 1)) := by
  have outer : ∀ (d n : Nat), n + d = H + 1 → Ev (fun k => impl_takeValues.l0 k (t : Int) (TV t n) ((H + 1 : Nat) : Int) (n : Int)) (TV t (H + 1)) := by
    intro d
    induction d with
    | zero =>
      intro n hn
      obtain rfl : n = H + 1 := by omega
      refine Ev_round ?_
      simp only [impl_takeValues.l0]
      exact Ev_neg (by omega) (Ev.now _)
    | succ d ih =>
      intro n hn
      refine Ev_round ?_
      simp only [impl_takeValues.l0]
      refine Ev_pos (by omega) ?_
      have nx := ih (n + 1) (by omega)
      have hmn : mn (n : Int) 63 = ((min n 63 : Nat) : Int) := by unfold mn; split <;> omega
      have inner : ∀ (e m : Nat), m + e = min n 63 → Ev (fun k => impl_takeValues.l1 k (t : Int) (TV t n) (n : Int) (takeTo t (TV t n) n m) ((m + 1 : Nat) : Int) ((H + 1 : Nat) : Int) (n : Int)) (TV t (H + 1)) := by
        intro e
        induction e with
        | zero =>
          intro m hm
          obtain rfl : m = min n 63 := by omega
          refine Ev_round ?_
          simp only [impl_takeValues.l1]
          have hl1 := takeTo_len t (TV t n) n (min n 63)
          have hl2 := takeTo_range t n (min n 63) (by omega)
          have hml := mexN_le (takeTo t (TV t n) n (min n 63))
          rw [hmn]
          refine Ev_neg (by omega) (Ev.bind (impl_mex_ev _ (by omega) (fun x hx => by have := hl2 x hx; omega)) (Ev_pos (by rw [TV_len]; omega) ?_))
          rw [w64 (by omega) (by omega), wu16 (by omega) (by omega)]
          exact nx
        | succ e ihe =>
          intro m hm
          refine Ev_round ?_
          simp only [impl_takeValues.l1]
          have e2 : wrap64 (((m + 1 : Nat) : Int) + 1) = ((m + 1 + 1 : Nat) : Int) := by rw [w64 (by omega) (by omega)]; omega
          have e3 : wrap64 ((n : Int) - ((m + 1 : Nat) : Int)) = ((n - (m + 1) : Nat) : Int) := by rw [w64 (by omega) (by omega)]; omega
          rw [hmn, e2, e3]
          have nx2 := ihe (m + 1) (by omega)
          rw [takeTo_succ] at nx2
          have hl1 := takeTo_len t (TV t n) n m
          refine Ev_pos (by omega) (Ev_bind1 (may_take t (m + 1) ht (by omega)) ?_)
          by_cases c : t.testBit (m + 1) = true
          · rw [if_pos c] at nx2
            exact Ev_pos c (Ev_pos (by omega) (Ev_pos (by rw [TV_len]; omega) (Ev_pos (by omega) nx2)))
          · rw [if_neg c, List.append_nil] at nx2
            exact Ev_neg c nx2
      have := inner (min n 63) 0 (by omega)
      rw [takeTo_zero] at this
      exact this
  have := outer (H + 1) 0 (by omega)
  unfold impl_takeValues.f
  rw [w64 (by omega) (by omega)]
  exact this

theorem impl_sumP_ev (vals l : List Int) (hl : l.length ≤ 1048576) (hp : ∀ p ∈ l, 0 ≤ p ∧ p < (vals.length : Int)) : Ev (fun k => impl_sumAt.f k vals l) (sumP vals l) :=
  fold_loop (L := fun k s i => impl_sumAt.l0 k vals s l l.length i) (f := fun s p => X s (rd vals p)) (fin := id) l (fun _ _ => True)
    (fun k s n h _ => by
      have := hp _ (List.getElem_mem h)
      simp only [impl_sumAt.l0]
      rw [rd_nat h, if_pos (by omega), if_pos (by omega), if_pos (by omega), if_pos this.1, if_pos this.2, w64 (by omega) (by omega)]
      rfl)
    (fun _ _ _ _ => trivial)
    (fun k s _ => by simp only [impl_sumAt.l0]; rw [if_neg (by omega)]; rfl) l.length 0 0 (by omega) trivial

set_option maxHeartbeats 1000000 in
theorem impl_tm_loop (t : Nat) (ht : t ≤ 18446744073709551615) (V : List Int) (hV : V.length = 501) (s : Int) (l : List Int) (hl : l.length ≤ 12) (hp : ∀ p ∈ l, 0 ≤ p ∧ p ≤ 500) :
    ∀ (d i : Nat), i + d = l.length → Ev (fun k => impl_TakeMoves.l0 k (t : Int) V (tmDone t V s l i) s l (l.length : Int) (i : Int)) (tmDone t V s l l.length, 0) := by
  intro d
  induction d with
  | zero =>
    intro i h
    obtain rfl : i = l.length := by omega
    refine Ev_round ?_
    simp only [impl_TakeMoves.l0]
    exact Ev_neg (by omega) (Ev.now _)
  | succ d ih =>
    intro i h
    have hi : i < l.length := by omega
    have hpi := hp _ (List.getElem_mem hi)
    have nx := ih (i + 1) (by omega)
    obtain ⟨H, hH⟩ := Int.eq_ofNat_of_zero_le hpi.1
    have hr : rd l (i : Int) = (H : Int) := by rw [rd_nat hi]; exact hH
    have hH5 : H ≤ 500 := by omega
    have hq3 : H - 63 ≤ H ∧ H - (H - 63) ≤ 63 ∧ ((H : Int) ≤ ((H - 63 : Nat) : Int) + 63) ∧ mx ((H : Int) - 63) 0 = ((H - 63 : Nat) : Int) := ⟨by omega, by omega, by omega, by unfold mx; split <;> omega⟩
    generalize hq : H - 63 = q at hq3
    have HQ := Aside0.mk hq
    have HM := Aside0.mk hq3.2.2.2
    have hqa := hq3.1
    have hqb := hq3.2.1
    have hqc := hq3.2.2.1
    clear hq hq3
    have inner : ∀ (e n : Nat), n + e = H - q → Ev (fun k => impl_TakeMoves.l1 k (t : Int) V (tmDone t V s l i ++ tmRow t V s i H n) s (i : Int) (H : Int) ((q + n : Nat) : Int) l (l.length : Int) (i : Int)) (tmDone t V s l l.length, 0) := by
      intro e
      induction e with
      | zero =>
        intro n hn
        refine Ev_round ?_
        simp only [impl_TakeMoves.l1]
        refine Ev_neg (by omega) ?_
        rw [w64 (by omega) (by omega)]
        have e1 : tmDone t V s l (i + 1) = tmDone t V s l i ++ tmRow t V s i H n := by
          rw [tmDone_succ, hr, Int.toNat_natCast, HQ.out, show n = H - q by omega]
        rw [e1] at nx
        exact nx
      | succ e ihe =>
        intro n hn
        refine Ev_round ?_
        simp only [impl_TakeMoves.l1]
        have nx2 := ihe (n + 1) (by omega)
        rw [tmRow_succ, HQ.out] at nx2
        have e1 : wrap64 ((H : Int) - ((q + n : Nat) : Int)) = ((H - (q + n) : Nat) : Int) := by
          rw [w64 (by omega) (by omega)]; omega
        have e2 : wrap64 (((q + n : Nat) : Int) + 1) = ((q + (n + 1) : Nat) : Int) := by rw [w64 (by omega) (by omega)]; omega
        rw [e1, e2]
        clear e1 e2
        have h1 := tmDone_len t V s l i
        have h2 := tmRow_len t V s i H n
        have hlen : (tmDone t V s l i ++ tmRow t V s i H n).length < 8796093022208 := by rw [List.length_append]; omega
        have g1 : (0 : Int) ≤ (H : Int) ∧ (H : Int) < (V.length : Int) ∧ (0 : Int) ≤ ((q + n : Nat) : Int) ∧ ((q + n : Nat) : Int) < (V.length : Int) := by omega
        refine Ev_pos (by omega) (Ev_bind1 (may_take t (H - (q + n)) ht (Nat.le_trans (Nat.sub_le_sub_left (Nat.le_add_right q n) H) hqb)) ?_)
        by_cases c : t.testBit (H - (q + n)) = true
        · refine Ev_pos c (Ev_pos g1.1 (Ev_pos g1.2.1 (Ev_pos g1.2.2.1 (Ev_pos g1.2.2.2 ?_))))
          by_cases c2 : X (X s (rd V (H : Int))) (rd V ((q + n : Nat) : Int)) = 0
          · rw [if_pos (by unfold tmWin; rw [c, decide_eq_true c2]; rfl), ← List.append_assoc] at nx2
            exact Ev_pos c2 (Ev_pos hlen nx2)
          · rw [if_neg (by unfold tmWin; rw [c, decide_eq_false c2]; decide), List.append_nil] at nx2
            exact Ev_neg c2 nx2
        · rw [if_neg (by unfold tmWin; rw [Bool.eq_false_iff.mpr c]; simp), List.append_nil] at nx2
          exact Ev_neg c nx2
    have hin := inner (H - q) 0 (by omega)
    rw [tmRow_zero, List.append_nil, Nat.add_zero] at hin
    refine Ev_round ?_
    simp only [impl_TakeMoves.l0]
    refine Ev_pos (by omega) (Ev_pos (by omega) (Ev_pos (by omega) ?_))
    rw [hr, w64 (by omega) (by omega)]
    rw [HM.out]
    exact hin
theorem bad_all (l : List Int) : l.any slices_ContainsFunc_int64_int64.bad = !(l.all okHeap) := by
  induction l with
  | nil => rfl
  | cons x t ih => rw [List.any_cons, List.all_cons, ih, Bool.not_and]; rfl
theorem impl_tm_ev (t : Nat) (ht : t ≤ 18446744073709551615) (l : List Int) : Ev (fun k => impl_TakeMoves.f k (t : Int) l) (tmR t l) := by
  unfold tmR impl_TakeMoves.f
  rw [and1_u64 (by omega) (by omega)]
  by_cases c0 : l.length > 12
  · rw [if_pos c0]
    exact Ev_pos (by omega) (Ev.now _)
  rw [if_neg c0]
  refine Ev_neg (by omega) ?_
  by_cases c1 : t % 2 = 1
  · rw [if_pos c1]
    exact Ev_pos (by omega) (Ev.now _)
  rw [if_neg c1]
  refine Ev_neg (by omega) (Ev_bind1 (a := !(l.all okHeap)) (by unfold slices_ContainsFunc_int64_int64.f; rw [bad_all]) ?_)
  by_cases c2 : l.all okHeap = true
  · rw [if_pos c2]
    have hp := tm_heaps c2
    exact Ev_neg (by simp [c2]) (Ev.bind (impl_take_ev t 500 ht (by omega)) (Ev.bind (impl_sumP_ev (TV t 501) l (by omega) (fun p hm => by have := hp p hm; rw [TV_len]; omega)) (impl_tm_loop t ht (TV t 501) (TV_len _ _) _ l (by omega) hp l.length 0 (by omega))))
  · rw [if_neg c2]
    exact Ev_pos (by simp [c2]) (Ev.now _)
theorem tmR_len (t : Nat) (l : List Int) : (tmR t l).1.length ≤ 1000 := by
  unfold tmR
  by_cases c0 : l.length > 12
  · rw [if_pos c0]; simp
  rw [if_neg c0]
  have := tmDone_len t (TV t 501) (sumP (TV t 501) l) l l.length
  split
  · simp
  · split
    · show (tmDone t (TV t 501) (sumP (TV t 501) l) l l.length).length ≤ 1000
      omega
    · simp

theorem seed_range (x : Int) : 0 ≤ IntKind.u64.wrap x ∧ IntKind.u64.wrap x ≤ 18446744073709551615 := by rw [IntKind.wrap_u64]; omega
theorem low8 (x : Int) : 0 ≤ wrap64 (Go.bits .and .u64 (IntKind.u64.wrap x / 1099511627776) 255) ∧ wrap64 (Go.bits .and .u64 (IntKind.u64.wrap x / 1099511627776) 255) ≤ 255 := by
  have h := seed_range x
  generalize IntKind.u64.wrap x = y at h
  have hd : 0 ≤ y / 1099511627776 ∧ y / 1099511627776 < 18446744073709551616 := by omega
  generalize y / 1099511627776 = z at hd
  rw [u64_and z 255 hd.1 hd.2 (by omega) (by omega)]
  have : z.toNat &&& (255 : Int).toNat ≤ 255 := Nat.and_le_right
  rw [w64 (by omega) (by omega)]
  omega
/-- A byte is drawn. -/
theorem next_ok (bs : List Int) (hb : ∀ x ∈ bs, 0 ≤ x ∧ x ≤ 255) (hl : bs.length ≤ 4096) (i : Nat) (hi : i ≤ 1000000) (sd : Int) : ∃ v sd', spec_l00Src_next.f bs (i : Int) sd = some (v, ((i + 1 : Nat) : Int), sd') ∧ 0 ≤ v ∧ v ≤ 255 := by
  unfold spec_l00Src_next.f
  have e1 : wrap64 ((i : Int) + 1) = ((i + 1 : Nat) : Int) := by rw [w64 (by omega) (by omega)]; omega
  rw [e1]
  by_cases c : i < bs.length
  · rw [if_pos (by omega), if_pos (by omega)]
    have hv := hb _ (rd_mem (xs := bs) (i := (i : Int)) (by omega) (by omega))
    rw [if_pos (by omega)]
    refine ⟨_, _, rfl, ?_⟩
    rw [w64 (by omega) (by omega)]
    exact hv
  · rw [if_neg (by omega), if_neg (by omega)]
    exact ⟨_, _, rfl, low8 _⟩

/-- A number below n is drawn. -/
theorem pick_ok (bs : List Int) (hb : ∀ x ∈ bs, 0 ≤ x ∧ x ≤ 255) (hl : bs.length ≤ 4096) (i : Nat) (hi : i ≤ 1000000) (sd : Int) (n : Int) (h1 : 1 < n) (h2 : n ≤ 200) : ∃ v sd', spec_l00Src_pick.f bs (i : Int) sd n = some (v, ((i + 1 : Nat) : Int), sd') ∧ 0 ≤ v ∧ v < n := by
  obtain ⟨v, sd', h, h3, h4⟩ := next_ok bs hb hl i hi sd
  unfold spec_l00Src_pick.f
  rw [if_neg (by omega), h]
  simp only [Option.bind_some]
  rw [if_neg (by omega), if_neg (by omega)]
  refine ⟨_, _, rfl, ?_⟩
  rw [Int.tmod_eq_emod_of_nonneg h3]
  exact ⟨Int.emod_nonneg _ (by omega), Int.emod_lt_of_pos _ (by omega)⟩

theorem two_pow_even (p : Nat) : (2 * 2 ^ p).testBit 0 = false := by rw [Nat.testBit_zero]; simp
theorem shl2 (p : Nat) (hp : p ≤ 7) : shl .u64 2 (p : Int) = ((2 * 2 ^ p : Nat) : Int) ∧ 2 * 2 ^ p < 512 := by
  have h : 2 ^ p ≤ 128 := Nat.pow_le_pow_right (by omega) hp
  exact ⟨shl_u64 2 p (by omega) (by omega), by omega⟩
/-- Some numbers that may be taken are drawn. -/
theorem takes_ok (bs : List Int) (hb : ∀ x ∈ bs, 0 ≤ x ∧ x ≤ 255) (hl : bs.length ≤ 4096) : ∃ t : Nat, spec_P6Takes.f bs = some (t : Int) ∧ t % 2 = 0 ∧ t ≠ 0 ∧ t < 512 := by
  obtain ⟨v1, s1, e1, a1, b1⟩ := pick_ok bs hb hl 0 (by omega) 0 8 (by omega) (by omega)
  obtain ⟨v2, s2, e2, a2, b2⟩ := pick_ok bs hb hl 1 (by omega) s1 8 (by omega) (by omega)
  obtain ⟨v3, s3, e3, a3, b3⟩ := pick_ok bs hb hl 2 (by omega) s2 8 (by omega) (by omega)
  obtain ⟨p1, rfl⟩ := Int.eq_ofNat_of_zero_le a1
  obtain ⟨p2, rfl⟩ := Int.eq_ofNat_of_zero_le a2
  obtain ⟨p3, rfl⟩ := Int.eq_ofNat_of_zero_le a3
  obtain ⟨q1, r1⟩ := shl2 p1 (by omega)
  obtain ⟨q2, r2⟩ := shl2 p2 (by omega)
  obtain ⟨q3, r3⟩ := shl2 p3 (by omega)
  have hor : (2 * 2 ^ p1 ||| 2 * 2 ^ p2) < 512 := Nat.or_lt_two_pow (n := 9) (by simpa using r1) (by simpa using r2)
  refine ⟨(2 * 2 ^ p1 ||| 2 * 2 ^ p2) ||| 2 * 2 ^ p3, ?_, ?_, ?_, ?_⟩
  · unfold spec_P6Takes.f spec_l00From.f
    simp only [Option.bind_some]
    have e1' : spec_l00Src_pick.f bs 0 0 8 = _ := e1
    have e2' : spec_l00Src_pick.f bs ((0 + 1 : Nat) : Int) s1 8 = _ := e2
    have e3' : spec_l00Src_pick.f bs ((1 + 1 : Nat) : Int) s2 8 = _ := e3
    rw [e1']
    simp only [Option.bind_some]
    rw [wu64 (by omega) (by omega), if_pos (by omega), e2']
    simp only [Option.bind_some]
    rw [wu64 (by omega) (by omega), if_pos (by omega), e3']
    simp only [Option.bind_some]
    rw [wu64 (by omega) (by omega), if_pos (by omega), q1, q2, q3, u64_or_nat _ _ (by omega) (by omega), u64_or_nat _ _ (by omega) (by omega)]
  · have : ((2 * 2 ^ p1 ||| 2 * 2 ^ p2) ||| 2 * 2 ^ p3).testBit 0 = false := by
      rw [Nat.testBit_or, Nat.testBit_or, two_pow_even, two_pow_even, two_pow_even]
      rfl
    rw [Nat.testBit_zero] at this
    have := of_decide_eq_false this
    omega
  · intro h0
    have : ((2 * 2 ^ p1 ||| 2 * 2 ^ p2) ||| 2 * 2 ^ p3).testBit (p1 + 1) = true := by
      rw [Nat.testBit_or, Nat.testBit_or, show 2 * 2 ^ p1 = 2 ^ (p1 + 1) by rw [Nat.pow_succ, Nat.mul_comm], Nat.testBit_two_pow_self]
      rfl
    rw [h0] at this
    simp at this
  · exact Nat.or_lt_two_pow (n := 9) (by simpa using hor) (by simpa using r3)

/-- Some heaps are drawn. -/
theorem heaps_ok (bs : List Int) (hb : ∀ x ∈ bs, 0 ≤ x ∧ x ≤ 255) (hl : bs.length ≤ 4096) : ∃ l : List Int, Ev (fun k => spec_P6Heaps.f k bs) l ∧ l.length ≤ 4 ∧ ∀ p ∈ l, 0 ≤ p ∧ p ≤ 39 := by
  have loop : ∀ (d i : Nat) (sd : Int) (l : List Int), i + d ≤ 1000 → l.length + d ≤ 4 → (∀ p ∈ l, 0 ≤ p ∧ p ≤ 39) → ∃ r : List Int, Ev (fun k => spec_P6Heaps.l0 k l (d : Int) bs (i : Int) sd) r ∧ r.length ≤ 4 ∧ ∀ p ∈ r, 0 ≤ p ∧ p ≤ 39 := by
    intro d
    induction d with
    | zero =>
      intro i sd l hi hll hp
      refine ⟨l, Ev_round ?_, by omega, hp⟩
      simp only [spec_P6Heaps.l0]
      exact Ev_neg (by omega) (Ev.now _)
    | succ d ih =>
      intro i sd l hi hll hp
      obtain ⟨v, s', e, a, b⟩ := pick_ok bs hb hl i (by omega) sd 40 (by omega) (by omega)
      obtain ⟨r, h1, h2, h3⟩ := ih (i + 1) s' (l ++ [v]) (by omega) (by simp; omega) (fun p hm => by
        rcases List.mem_append.1 hm with hm | hm
        · exact hp p hm
        · rw [List.mem_singleton.1 hm]; omega)
      refine ⟨r, Ev_round ?_, h2, h3⟩
      simp only [spec_P6Heaps.l0]
      rw [e]
      simp only [Option.bind_some]
      rw [w64 (by omega) (by omega), show ((d + 1 : Nat) : Int) - 1 = (d : Int) by omega]
      exact Ev_pos (by omega) (Ev_pos (by omega) h1)
  obtain ⟨v, s1, e1, a1, b1⟩ := pick_ok bs hb hl 0 (by omega) 0 5 (by omega) (by omega)
  obtain ⟨d, rfl⟩ := Int.eq_ofNat_of_zero_le a1
  obtain ⟨r, h1, h2, h3⟩ := loop d 1 s1 [] (by omega) (by simp; omega) (by simp)
  refine ⟨r, ?_, h2, h3⟩
  unfold spec_P6Heaps.f spec_l00From.f
  simp only [Option.bind_some]
  have e1' : spec_l00Src_pick.f bs 0 0 5 = _ := e1
  rw [e1']
  simp only [Option.bind_some]
  exact h1

theorem impl_equal_ev (xs ys : List Int) (hn : xs.length ≤ 140737488355328) : Ev (fun k => impl_Nimber.f k xs ys) (decide (xs = ys)) := by
  by_cases h : xs.length = ys.length
  · refine Ev_pos (by omega) ?_
    have g := eq_gen (L := fun k i => impl_Nimber.l0 k xs ys xs.length i) (fun b => b) 0 xs ys h
      (fun k n hh => by
        simp only [impl_Nimber.l0, Int.zero_add]
        rw [if_pos (by omega), if_pos (by omega), if_pos (by omega), if_pos (by omega), w64 (by omega) (by omega), rd_nat (by omega), rd_nat (by omega)]
        rfl)
      (fun k => by simp only [impl_Nimber.l0, Int.zero_add]; rw [if_neg (by omega)])
      _ 0 (Nat.zero_add _) (by simp)
    simpa using g
  · refine Ev_neg (by omega) (Ev_as (Ev.now _) ?_)
    have : xs ≠ ys := fun e => h (by rw [e])
    simp [this]

/-- A part of a list. -/
def cutL (l : List Int) (a m : Nat) : List Int := (l.take (a + m)).drop a
theorem cutL_len (l : List Int) (a m : Nat) (h : a + m ≤ l.length) : (cutL l a m).length = m := by simp [cutL]; omega
theorem alike_ev (l : List Int) (a p m : Nat) (h : a + p + m ≤ l.length) (hl : l.length ≤ 100000) : Ev (fun k => spec_l03Alike.f k l (a : Int) (p : Int) (m : Int)) (decide (cutL l a m = cutL l (a + p) m)) := by
  have e1 := cutL_len l a m (by omega)
  have e2 := cutL_len l (a + p) m (by omega)
  have g := eq_gen (L := fun k i => spec_l03Alike.l0 k l (a : Int) (p : Int) (m : Int) i) (fun b => b) (a : Int) _ _ (e1.trans e2.symm)
    (fun k n hh => by
      rw [e1] at hh
      simp only [spec_l03Alike.l0]
      have e3 : wrap64 ((a : Int) + (n : Int) + (p : Int)) = ((a + p + n : Nat) : Int) := by rw [w64 (by omega) (by omega)]; omega
      have e4 : wrap64 ((a : Int) + (m : Int)) = (a : Int) + m := w64 (by omega) (by omega)
      have e5 : wrap64 ((a : Int) + (n : Int) + 1) = (a : Int) + ((n + 1 : Nat) : Int) := by rw [w64 (by omega) (by omega)]; omega
      have e6 : (a : Int) + (n : Int) = ((a + n : Nat) : Int) := by omega
      rw [e3, e4, e5]
      rw [if_pos (by omega), if_pos (by omega), if_pos (by omega), if_pos (by omega), if_pos (by omega), e6, rd_nat (by omega), rd_nat (by omega)]
      simp only [cutL, List.getElem_drop, List.getElem_take])
    (fun k => by
      simp only [spec_l03Alike.l0]
      rw [e1, w64 (by omega) (by omega), if_neg (by omega)])
    _ 0 (Nat.zero_add _) (by simp)
  unfold spec_l03Alike.f
  simpa using g

theorem sameNims_ev (xs : List Int) (hn : xs.length ≤ 100000) : Ev (fun k => spec_SameNims.f k xs xs) true := by
  have main : ∀ (d n : Nat), n + d = xs.length → Ev (fun k => spec_SameNims.l0 k xs xs (n : Int)) true := by
    intro d
    induction d with
    | zero =>
      intro n h
      refine Ev_round ?_
      simp only [spec_SameNims.l0]
      exact Ev_neg (by omega) (Ev.now _)
    | succ d ih =>
      intro n h
      refine Ev_round ?_
      simp only [spec_SameNims.l0]
      rw [w64 (by omega) (by omega)]
      exact Ev_pos (by omega) (Ev_pos (by omega) (Ev_pos (by omega) (Ev_pos (by simp) (ih (n + 1) (by omega)))))
  exact Ev_pos rfl (main xs.length 0 (by omega))

theorem rdP2 {xs : List S46} {n : Nat} (h : n < xs.length) : rd_T46 xs (n : Int) = xs[n] := by simp [rd_T46, List.getD_eq_getElem?_getD, List.getElem?_eq_getElem h]
theorem samePairs_ev (xs : List S46) (hn : xs.length ≤ 100000) : Ev (fun k => spec_SamePairs.f k xs xs) true := by
  have main : ∀ (d n : Nat), n + d = xs.length → Ev (fun k => spec_SamePairs.l0 k xs xs (n : Int)) true := by
    intro d
    induction d with
    | zero =>
      intro n h
      refine Ev_round ?_
      simp only [spec_SamePairs.l0]
      exact Ev_neg (by omega) (Ev.now _)
    | succ d ih =>
      intro n h
      refine Ev_round ?_
      simp only [spec_SamePairs.l0]
      rw [w64 (by omega) (by omega)]
      exact Ev_pos (by omega) (Ev_pos (by omega) (Ev_pos (by omega) (Ev_neg (by simp) (ih (n + 1) (by omega)))))
  exact Ev_pos rfl (main xs.length 0 (by omega))

def repR (xs : List Int) (a p : Int) : Bool × Int :=
  if 0 ≤ a ∧ 1 ≤ p ∧ a ≤ xs.length ∧ p ≤ xs.length - a then (decide ((xs.take ((xs.length : Int) - p).toNat).drop a.toNat = xs.drop (a + p).toNat), 0) else (false, 2)
theorem impl_repeats_ev (xs : List Int) (a p : Int) (hn : xs.length ≤ 140737488355328) (ha : -9223372036854775808 ≤ a ∧ a ≤ 9223372036854775807) (hp : -9223372036854775808 ≤ p ∧ p ≤ 9223372036854775807) :
    Ev (fun k => impl_RepeatsFrom.f k xs a p) (repR xs a p) := by
  unfold repR impl_RepeatsFrom.f impl_within.f
  by_cases h : 0 ≤ a ∧ 1 ≤ p ∧ a ≤ xs.length ∧ p ≤ xs.length - a
  · rw [if_pos h]
    obtain ⟨h1, h2, h3, h4⟩ := h
    refine Ev_bind1 (if_pos h1) (Ev_pos (by simp; omega) (Ev_neg (by omega) ?_))
    have e1 : wrap64 ((xs.length : Int) - a) = xs.length - a := w64 (by omega) (by omega)
    have e2 : wrap64 ((xs.length : Int) - p) = xs.length - p := w64 (by omega) (by omega)
    have e3 : wrap64 (a + p) = a + p := w64 (by omega) (by omega)
    rw [e1, e2, e3]
    refine Ev_neg (by omega) (Ev_pos (by omega) (Ev_pos (by omega) (Ev_pos (by omega) (Ev_pos (by omega) (Ev_pos (by omega) ?_)))))
    refine Ev.bind (impl_equal_ev _ _ (by simp; omega)) (Ev.now _)
  · rw [if_neg h]
    by_cases c : 0 ≤ a
    · refine Ev_bind1 (if_pos c) ?_
      by_cases c2 : a ≤ (xs.length : Int)
      · refine Ev_pos (by simpa using c2) (Ev_ite' (fun _ => Ev.now _) (fun c3 => Ev_pos ?_ (Ev.now _)))
        rw [w64 (by omega) (by omega)]
        omega
      · exact Ev_neg (by simpa using c2) (Ev.now _)
    · exact Ev_bind1 (if_neg c) (Ev_neg (by simp) (Ev.now _))

theorem spec_repeats_ev (xs : List Int) (a p : Int) (hn : xs.length ≤ 140737488355328) (ha : -9223372036854775808 ≤ a ∧ a ≤ 9223372036854775807) (hp : -9223372036854775808 ≤ p ∧ p ≤ 9223372036854775807) :
    Ev (fun k => spec_RepeatsFrom.f k xs a p) (repR xs a p) := by
  unfold repR
  by_cases h : 0 ≤ a ∧ 1 ≤ p ∧ a ≤ xs.length ∧ p ≤ xs.length - a
  · rw [if_pos h]
    obtain ⟨h1, h2, h3, h4⟩ := h
    refine Ev_neg (by omega) (Ev_neg (by omega) (Ev_neg (by omega) ?_))
    rw [w64 (by omega) (by omega)]
    refine Ev_round ?_
    simp only [spec_RepeatsFrom.j0]
    refine Ev_neg (by simp; omega) ?_
    have hl : ((xs.take ((xs.length : Int) - p).toNat).drop a.toNat).length = (xs.drop (a + p).toNat).length := by simp; omega
    have hlen : ((xs.take ((xs.length : Int) - p).toNat).drop a.toNat).length = ((xs.length : Int) - p - a).toNat := by simp; omega
    have g := eq_gen (L := fun k i => spec_RepeatsFrom.l0 k xs p xs.length i) (fun b => (b, (0 : Int))) a _ _ hl
      (fun k n hh => by
        simp only [spec_RepeatsFrom.l0]
        rw [hlen] at hh
        have e1 : wrap64 (a + (n : Int) + p) = a + n + p := w64 (by omega) (by omega)
        rw [e1, w64 (by omega) (by omega), if_pos (by omega), if_pos (by omega), if_pos (by omega), if_pos (by omega), if_pos (by omega), rd_int (by omega) (by omega), rd_int (by omega) (by omega)]
        have e2 : (a + (n : Int)).toNat = a.toNat + n := by omega
        have e3 : (a + (n : Int) + p).toNat = (a + p).toNat + n := by omega
        simp only [e2, e3, List.getElem_drop, List.getElem_take]
        have e4 : a + (n : Int) + 1 = a + ((n + 1 : Nat) : Int) := by omega
        rw [e4])
      (fun k => by
        simp only [spec_RepeatsFrom.l0]
        rw [hlen, if_neg]
        rw [w64 (by omega) (by omega)]
        omega)
      _ 0 (Nat.zero_add _) (by simp)
    simpa using g
  · rw [if_neg h]
    refine Ev_ite' (fun c => Ev_round (by simp only [spec_RepeatsFrom.j0]; exact Ev_pos (by simp) (Ev.now _))) (fun c => ?_)
    refine Ev_ite' (fun c => Ev_round (by simp only [spec_RepeatsFrom.j0]; exact Ev_pos (by simp) (Ev.now _))) (fun c => ?_)
    refine Ev_ite' (fun c => Ev_round (by simp only [spec_RepeatsFrom.j0]; exact Ev_pos (by simp) (Ev.now _))) (fun c => ?_)
    rw [w64 (by omega) (by omega)]
    exact Ev_round (by simp only [spec_RepeatsFrom.j0]; exact Ev_pos (by simp; omega) (Ev.now _))

theorem wr2 (s p m : Nat) (h : s ≤ 600 ∧ p ≤ 600 ∧ m ≤ 600) : wrap64 (wrap64 ((s : Int) + (p : Int)) + (m : Int)) = (s : Int) + p + m := by rw [w64 (x := (s : Int) + p) (by omega) (by omega), w64 (by omega) (by omega)]
theorem wr1 (s p : Nat) (h : s ≤ 600 ∧ p ≤ 600) : wrap64 ((s : Int) + (p : Int)) = (s : Int) + p := w64 (by omega) (by omega)
theorem wr0 (s : Nat) (h : s ≤ 600) : wrap64 ((s : Int) + 1) = ((s + 1 : Nat) : Int) := by rw [w64 (by omega) (by omega)]; omega
theorem spec_l2_end (vals : List Int) (m : Nat) (hm : 1 ≤ m ∧ m ≤ 63) (hv : vals.length = 501) (s p : Nat) (hs : s ≤ 500) (hp : p ≤ 501) (c : ¬ (s : Int) + p + m ≤ 500) {r} (h : Ev (fun k => spec_TakePeriod.l1 k (m : Int) vals ((s + 1 : Nat) : Int)) r) : Ev (fun k => spec_TakePeriod.l2 k (m : Int) vals (s : Int) (p : Int)) r := by
  refine Ev_round ?_
  simp only [spec_TakePeriod.l2]
  rw [wr2 s p m ⟨by omega, by omega, by omega⟩, wr0 s (by omega)]
  exact Ev_neg c h
theorem impl_l2_end (vals : List Int) (m : Nat) (hm : 1 ≤ m ∧ m ≤ 63) (hv : vals.length = 501) (s p : Nat) (hs : s ≤ 500) (hp : p ≤ 501) (c : ¬ (s : Int) + p + m ≤ 500) {r} (h : Ev (fun k => impl_TakePeriod.l1 k (m : Int) vals ((s + 1 : Nat) : Int)) r) : Ev (fun k => impl_TakePeriod.l2 k (m : Int) vals (s : Int) (p : Int)) r := by
  refine Ev_round ?_
  simp only [impl_TakePeriod.l2]
  rw [wr2 s p m ⟨by omega, by omega, by omega⟩, wr0 s (by omega)]
  exact Ev_neg c h
theorem spec_l2_hit (vals : List Int) (m : Nat) (hm : 1 ≤ m ∧ m ≤ 63) (hv : vals.length = 501) (s p : Nat) (c : (s : Int) + p + m ≤ 500) (b : cutL vals s m = cutL vals (s + p) m) : Ev (fun k => spec_TakePeriod.l2 k (m : Int) vals (s : Int) (p : Int)) ((s : Int), (p : Int), 0) := by
  refine Ev_round ?_
  simp only [spec_TakePeriod.l2]
  rw [wr2 s p m ⟨by omega, by omega, by omega⟩]
  exact Ev_pos c (Ev.bind (alike_ev vals s p m (by omega) (by omega)) (Ev_pos (by simp [b]) (Ev.now _)))
theorem spec_l2_miss (vals : List Int) (m : Nat) (hm : 1 ≤ m ∧ m ≤ 63) (hv : vals.length = 501) (s p : Nat) (c : (s : Int) + p + m ≤ 500) (b : ¬ cutL vals s m = cutL vals (s + p) m) {r} (h : Ev (fun k => spec_TakePeriod.l2 k (m : Int) vals (s : Int) ((p + 1 : Nat) : Int)) r) : Ev (fun k => spec_TakePeriod.l2 k (m : Int) vals (s : Int) (p : Int)) r := by
  refine Ev_round ?_
  simp only [spec_TakePeriod.l2]
  rw [wr2 s p m ⟨by omega, by omega, by omega⟩, wr0 p (by omega)]
  exact Ev_pos c (Ev.bind (alike_ev vals s p m (by omega) (by omega)) (Ev_neg (by simp [b]) h))
theorem impl_l2_any (vals : List Int) (m : Nat) (hm : 1 ≤ m ∧ m ≤ 63) (hv : vals.length = 501) (s p : Nat) (c : (s : Int) + p + m ≤ 500) {r} (h : Ev (fun k => if (decide (cutL vals s m = cutL vals (s + p) m)) = true then some ((s : Int), (p : Int), 0) else impl_TakePeriod.l2 k (m : Int) vals (s : Int) ((p + 1 : Nat) : Int)) r) : Ev (fun k => impl_TakePeriod.l2 k (m : Int) vals (s : Int) (p : Int)) r := by
  have hb := impl_equal_ev (cutL vals s m) (cutL vals (s + p) m) (by rw [cutL_len _ _ _ (by omega)]; omega)
  have t1 : ((s : Int) + (m : Int)).toNat = s + m := by omega
  have t2 : ((s : Int) + (p : Int) + (m : Int)).toNat = s + p + m := by omega
  have t3 : ((s : Int) + (p : Int)).toNat = s + p := by omega
  have e7 : wrap64 ((s : Int) + p + m) = (s : Int) + p + m := w64 (by omega) (by omega)
  refine Ev_round ?_
  simp only [impl_TakePeriod.l2]
  rw [wr1 s p ⟨by omega, by omega⟩, wr1 s m ⟨by omega, by omega⟩, e7, wr0 p (by omega)]
  refine Ev_pos c (Ev_pos (by omega) (Ev_pos (by omega) (Ev_pos (by omega) (Ev_pos (by omega) (Ev_pos (by omega) (Ev_pos (by omega) ?_))))))
  rw [t1, t2, t3]
  exact Ev.bind hb h
/-- No period, or one that was seen. -/
def goodP (V : List Int) (m : Nat) (r : Int × Int × Int) : Prop := r = (0, 0, 6) ∨ ∃ s p : Nat, r = ((s : Int), (p : Int), 0) ∧ 1 ≤ p ∧ s + p + m ≤ 500 ∧ cutL V s m = cutL V (s + p) m
/-- The two searches for a period go hand in hand. -/
theorem period_ev (vals : List Int) (m : Nat) (hm : 1 ≤ m ∧ m ≤ 63) (hv : vals.length = 501) : ∃ r, goodP vals m r ∧ Ev (fun k => spec_TakePeriod.l1 k (m : Int) vals 0) r ∧ Ev (fun k => impl_TakePeriod.l1 k (m : Int) vals 0) r := by
  have outer : ∀ (d s : Nat), s + d = 500 → ∃ r, goodP vals m r ∧ Ev (fun k => spec_TakePeriod.l1 k (m : Int) vals (s : Int)) r ∧ Ev (fun k => impl_TakePeriod.l1 k (m : Int) vals (s : Int)) r := by
    intro d
    induction d with
    | zero =>
      intro s hs
      have e1 := wr2 s 1 m ⟨by omega, by omega, by omega⟩
      refine ⟨(0, 0, 6), .inl rfl, Ev_round ?_, Ev_round ?_⟩
      · simp only [spec_TakePeriod.l1]; exact Ev_neg (by rw [show (1 : Int) = ((1 : Nat) : Int) from rfl, e1]; omega) (Ev.now _)
      · simp only [impl_TakePeriod.l1]; exact Ev_neg (by rw [show (1 : Int) = ((1 : Nat) : Int) from rfl, e1]; omega) (Ev.now _)
    | succ d ih =>
      intro s hs
      have e1 := wr2 s 1 m ⟨by omega, by omega, by omega⟩
      by_cases c : (s : Int) + 1 + m ≤ 500
      · obtain ⟨r, hg, h1, h2⟩ := ih (s + 1) (by omega)
        have inner : ∀ (e p : Nat), p + e = 501 → 1 ≤ p → ∃ r, goodP vals m r ∧ Ev (fun k => spec_TakePeriod.l2 k (m : Int) vals (s : Int) (p : Int)) r ∧ Ev (fun k => impl_TakePeriod.l2 k (m : Int) vals (s : Int) (p : Int)) r := by
          intro e
          induction e with
          | zero =>
            intro p hp _
            exact ⟨r, hg, spec_l2_end vals m hm hv s p (by omega) (by omega) (by omega) h1, impl_l2_end vals m hm hv s p (by omega) (by omega) (by omega) h2⟩
          | succ e ihe =>
            intro p hp hp1
            by_cases cp : (s : Int) + p + m ≤ 500
            · by_cases b : cutL vals s m = cutL vals (s + p) m
              · exact ⟨_, .inr ⟨s, p, rfl, hp1, by omega, b⟩, spec_l2_hit vals m hm hv s p cp b, impl_l2_any vals m hm hv s p cp (Ev_pos (decide_eq_true b) (Ev.now _))⟩
              · obtain ⟨q, qg, q1, q2⟩ := ihe (p + 1) (by omega) (by omega)
                exact ⟨q, qg, spec_l2_miss vals m hm hv s p cp b q1, impl_l2_any vals m hm hv s p cp (Ev_neg (by simp [b]) q2)⟩
            · exact ⟨r, hg, spec_l2_end vals m hm hv s p (by omega) (by omega) cp h1, impl_l2_end vals m hm hv s p (by omega) (by omega) cp h2⟩
        obtain ⟨q, qg, q1, q2⟩ := inner 500 1 (by omega) (by omega)
        refine ⟨q, qg, Ev_round ?_, Ev_round ?_⟩
        · simp only [spec_TakePeriod.l1]; exact Ev_pos (by rw [show (1 : Int) = ((1 : Nat) : Int) from rfl, e1]; omega) q1
        · simp only [impl_TakePeriod.l1]; exact Ev_pos (by rw [show (1 : Int) = ((1 : Nat) : Int) from rfl, e1]; omega) q2
      · refine ⟨(0, 0, 6), .inl rfl, Ev_round ?_, Ev_round ?_⟩
        · simp only [spec_TakePeriod.l1]; exact Ev_neg (by rw [show (1 : Int) = ((1 : Nat) : Int) from rfl, e1]; omega) (Ev.now _)
        · simp only [impl_TakePeriod.l1]; exact Ev_neg (by rw [show (1 : Int) = ((1 : Nat) : Int) from rfl, e1]; omega) (Ev.now _)
  exact outer 500 0 (by omega)
/-- Both go down to the greatest number that may be taken. -/
theorem top_ev (t : Nat) (ht : t ≤ 18446744073709551615) (h0 : t % 2 = 0) (h1 : t ≠ 0) : ∀ (d m : Nat), m = d → m ≤ 63 → t < 2 ^ (m + 1) →
    ∃ r m2, 1 ≤ m2 ∧ m2 ≤ 63 ∧ (∀ q, m2 < q → t.testBit q = false) ∧ goodP (TV t 501) m2 r ∧ Ev (fun k => spec_TakePeriod.l0 k (t : Int) (m : Int)) r ∧ Ev (fun k => impl_TakePeriod.l0 k (t : Int) (m : Int)) r := by
  intro d
  induction d with
  | zero =>
    intro m hm _ hlt
    subst hm
    simp at hlt
    omega
  | succ d ih =>
    intro m hm hm2 hlt
    have e1 : IntKind.u64.wrap (m : Int) = (m : Int) := wu64 (by omega) (by omega)
    have e2 : wrap64 ((m : Int) - 1) = ((m - 1 : Nat) : Int) := by rw [w64 (by omega) (by omega)]; omega
    by_cases c : t.testBit m = true
    · obtain ⟨r, rg, r1, r2⟩ := period_ev (TV t 501) m ⟨by omega, hm2⟩ (TV_len _ _)
      refine ⟨r, m, by omega, hm2, fun q hq => Nat.testBit_lt_two_pow (Nat.lt_of_lt_of_le hlt (Nat.pow_le_pow_right (by omega) (by omega))), rg, Ev_round ?_, Ev_round ?_⟩
      · simp only [spec_TakePeriod.l0]
        rw [e1, bit_u64 t m ht hm2]
        exact Ev_pos (by omega) (Ev_neg (by simp [c]) (Ev.bind (spec_take_ev t 500 ht (by omega)) r1))
      · simp only [impl_TakePeriod.l0]
        exact Ev_bind1 (may_take t m ht hm2) (Ev_pos c (Ev.bind (impl_take_ev t 500 ht (by omega)) r2))
    · have hb : t.testBit m = false := by simpa using c
      have hlt2 : t < 2 ^ (m - 1 + 1) := by
        rw [show m - 1 + 1 = m by omega]
        apply Nat.lt_pow_two_of_testBit
        intro i hi
        by_cases e : i = m
        · rw [e]; exact hb
        · exact Nat.testBit_lt_two_pow (Nat.lt_of_lt_of_le hlt (Nat.pow_le_pow_right (by omega) (by omega)))
      obtain ⟨r, m2, k1, k2, k3, k4, r1, r2⟩ := ih (m - 1) (by omega) (by omega) hlt2
      refine ⟨r, m2, k1, k2, k3, k4, Ev_round ?_, Ev_round ?_⟩
      · simp only [spec_TakePeriod.l0]
        rw [e1, e2, bit_u64 t m ht hm2]
        exact Ev_pos (by omega) (Ev_pos (by simp [hb]) r1)
      · simp only [impl_TakePeriod.l0]
        rw [e2]
        exact Ev_bind1 (may_take t m ht hm2) (Ev_neg (by simp [hb]) r2)
theorem period_both (T : Nat) (hT : T ≤ 18446744073709551615) (h0 : T % 2 = 0) (h1 : T ≠ 0) : ∃ r m2, 1 ≤ m2 ∧ m2 ≤ 63 ∧ (∀ q, m2 < q → T.testBit q = false) ∧ goodP (TV T 501) m2 r ∧ Ev (fun k => spec_TakePeriod.f k (T : Int)) r ∧ Ev (fun k => impl_TakePeriod.f k (T : Int)) r := by
  obtain ⟨r, m2, k1, k2, k3, k4, r1, r2⟩ := top_ev T hT h0 h1 63 63 rfl (by omega) (by omega)
  unfold spec_TakePeriod.f impl_TakePeriod.f
  rw [and1_u64 (by omega) (by omega)]
  exact ⟨r, m2, k1, k2, k3, k4, Ev_neg (by omega) (Ev_round (by simp only [spec_TakePeriod.j0]; exact Ev_neg (by simp; omega) r1)), Ev_neg (by omega) (Ev_round (by simp only [impl_TakePeriod.j0]; exact Ev_neg (by simp; omega) r2))⟩
theorem impl_tv200 (t : Nat) (ht : t ≤ 18446744073709551615) (te : t % 2 = 0) : Ev (fun k => impl_TakeValues.f k (t : Int) 200) (TV t 201, 0) := by
  unfold impl_TakeValues.f impl_within.f
  rw [and1_u64 (by omega) (by omega)]
  exact Ev_neg (by omega) (Ev_bind1 (a := true) (by simp) (Ev_pos rfl (Ev.bind (impl_take_ev t 200 ht (by omega)) (Ev.now _))))
theorem spec_tv200 (t : Nat) (ht : t ≤ 18446744073709551615) (te : t % 2 = 0) : Ev (fun k => spec_TakeValues.f k (t : Int) 200) (TV t 201, 0) := by
  unfold spec_TakeValues.f spec_l03Heap.f spec_l00In.f
  rw [and1_u64 (by omega) (by omega)]
  exact Ev_neg (by omega) (Ev_bind1 (a := true) (by simp) (Ev_pos rfl (Ev.bind (spec_take_ev t 200 ht (by omega)) (Ev.now _))))
/-- The values of some heaps. -/
def hv (t : Nat) (l : List Int) : List Nat := l.map fun p => tvN t p.toNat
theorem hv_lt (t : Nat) (l : List Int) : ∀ v ∈ hv t l, v < 65536 := by
  intro v h
  obtain ⟨p, _, rfl⟩ := List.mem_map.1 h
  have := tv_le t p.toNat
  omega
theorem rd_hv (t N : Nat) (p : Int) (h0 : 0 ≤ p) (h1 : p < (N : Int)) : rd (TV t N) p = ((tvN t p.toNat : Nat) : Int) := by
  obtain ⟨P, rfl⟩ := Int.eq_ofNat_of_zero_le h0
  exact TV_rd t N P (by omega)
theorem sum_hv (t N : Nat) (hN : 40 ≤ N) (l : List Int) (hl : ∀ p ∈ l, 0 ≤ p ∧ p ≤ 39) : sumP (TV t N) l = ((nsum (hv t l) : Nat) : Int) := by
  unfold sumP
  have e : l.map (rd (TV t N)) = (hv t l).map fun (v : Nat) => (v : Int) := by
    unfold hv
    rw [List.map_map]
    refine List.map_congr_left (fun p hp => ?_)
    have := hl p hp
    exact rd_hv t N p this.1 (by omega)
  have h := foldX (hv t l) 0 (by omega) (hv_lt t l)
  rw [← e, List.foldl_map, Nat.zero_xor] at h
  exact h
/-- What stands in the moves that win. -/
theorem tm_mem (t : Nat) (V : List Int) (s : Int) (l : List Int) (e : S46) : ∀ n, e ∈ tmDone t V s l n → ∃ i u0 : Nat, i < n ∧ e = ⟨(i : Int), (u0 : Int)⟩ ∧ u0 < (rd l i).toNat ∧ (rd l i).toNat - u0 ≤ 63 ∧ tmWin t V s (rd l i).toNat u0 = true := by
  intro n
  induction n with
  | zero => intro h; cases h
  | succ n ih =>
    intro h
    rw [tmDone_succ] at h
    rcases List.mem_append.1 h with h | h
    · obtain ⟨i, u0, h1, h2⟩ := ih h
      exact ⟨i, u0, by omega, h2⟩
    · obtain ⟨u0, h1, rfl⟩ := List.mem_map.1 h
      obtain ⟨h2, h3⟩ := List.mem_filter.1 h1
      obtain ⟨h4, h5⟩ := List.mem_range'_1.1 h2
      exact ⟨n, u0, by omega, rfl, by omega, by omega, h3⟩
theorem tm_some (t : Nat) (V : List Int) (s : Int) (l : List Int) (i u0 : Nat) (h1 : u0 < (rd l i).toNat) (h2 : (rd l i).toNat - u0 ≤ 63) (h3 : tmWin t V s (rd l i).toNat u0 = true) : ∀ n, i < n → tmDone t V s l n ≠ [] := by
  intro n
  induction n with
  | zero => intro h; omega
  | succ n ih =>
    intro h
    rw [tmDone_succ]
    by_cases e : i = n
    · subst e
      intro hn
      have hm : (⟨(i : Int), (u0 : Int)⟩ : S46) ∈ tmRow t V s i (rd l i).toNat ((rd l i).toNat - ((rd l i).toNat - 63)) := List.mem_map.2 ⟨u0, List.mem_filter.2 ⟨List.mem_range'_1.2 ⟨by omega, by omega⟩, h3⟩, rfl⟩
      rw [(List.append_eq_nil_iff.1 hn).2] at hm
      cases hm
    · intro hn
      exact ih (by omega) (List.append_eq_nil_iff.1 hn).1
theorem win_iff (t : Nat) (S h l : Nat) (hS : S < 65536) (hh : h < 501) (hl : l < 501) : tmWin t (TV t 501) (S : Int) h l = true ↔ t.testBit (h - l) = true ∧ S ^^^ tvN t h ^^^ tvN t l = 0 := by
  have h1 := tv_le t h
  have h2 := tv_le t l
  unfold tmWin
  rw [TV_rd t 501 h hh, TV_rd t 501 l hl, X_cast S _ hS (by omega), X_cast _ _ (Nat.xor_lt_two_pow (n := 16) hS (by omega)) (by omega), Bool.and_eq_true, decide_eq_true_eq]
  constructor
  · rintro ⟨a, b⟩; exact ⟨a, by omega⟩
  · rintro ⟨a, b⟩; exact ⟨a, by omega⟩
/-- There is a move that wins if, and only if, the sum is not 0. -/
theorem tm_iff (t : Nat) (l : List Int) (hl : ∀ p ∈ l, 0 ≤ p ∧ p ≤ 39) : tmDone t (TV t 501) ((nsum (hv t l) : Nat) : Int) l l.length ≠ [] ↔ nsum (hv t l) ≠ 0 := by
  have hS := nsum_lt (hv t l) (hv_lt t l)
  have hat : ∀ i (h : i < l.length), rd l (i : Int) = l[i] ∧ 0 ≤ l[i] ∧ l[i] ≤ 39 := fun i h => ⟨rd_nat h, hl _ (List.getElem_mem h)⟩
  constructor
  · intro hne h0
    obtain ⟨e, he⟩ := List.exists_mem_of_ne_nil _ hne
    obtain ⟨i, u0, h1, _, h2, h3, h4⟩ := tm_mem t _ _ l e l.length he
    obtain ⟨e1, p0, p1⟩ := hat i h1
    rw [e1] at h2 h3 h4
    obtain ⟨b, x⟩ := (win_iff t _ _ _ hS (by omega) (by omega)).1 h4
    rw [h0, Nat.zero_xor] at x
    exact tv_ne t _ u0 h2 h3 b (by
      have := congrArg (fun y => tvN t l[i].toNat ^^^ y) x
      simpa [← Nat.xor_assoc] using this)
  · intro hne
    obtain ⟨i, hi, a, h1, h2⟩ := nim_list (hv t l) 0 (by omega)
    have hil : i < l.length := by simpa [hv] using hi
    obtain ⟨e1, p0, p1⟩ := hat i hil
    have hvi : (hv t l)[i] = tvN t l[i].toNat := by simp [hv]
    rw [hvi] at h1 h2
    obtain ⟨u0, k1, k2, k3, k4⟩ := tv_ex t _ a h1
    refine tm_some t _ _ l i u0 (by rw [e1]; exact k1) (by rw [e1]; exact k2) ?_ l.length hil
    rw [e1]
    exact (win_iff t _ _ _ hS (by omega) (by omega)).2 ⟨k3, by rw [k4]; exact h2⟩
theorem cut_at (t m s p : Nat) (h : s + p + m ≤ 500) (e : cutL (TV t 501) s m = cutL (TV t 501) (s + p) m) (j : Nat) (hj : j < m) : tvN t (s + j) = tvN t (s + p + j) := by
  have h1 := congrArg (fun x => x[j]?) e
  have hl := TV_len t 501
  simp only [cutL, List.getElem?_drop, List.getElem?_take] at h1
  rw [if_pos (by omega), if_pos (by omega), List.getElem?_eq_getElem (by omega), List.getElem?_eq_getElem (by omega)] at h1
  have h2 := Option.some.inj h1
  rw [← rd_nat (xs := TV t 501) (by omega), ← rd_nat (xs := TV t 501) (by omega), TV_rd t 501 _ (by omega), TV_rd t 501 _ (by omega)] at h2
  omega
theorem rep_true (t s p : Nat) (h : s + p ≤ 201) (h1 : 1 ≤ p) (hp : ∀ n, s ≤ n → tvN t n = tvN t (n + p)) : repR (TV t 201) (s : Int) (p : Int) = (true, 0) := by
  have hl := TV_len t 201
  unfold repR
  rw [if_pos (by rw [hl]; omega)]
  refine Prod.ext ?_ rfl
  apply decide_eq_true
  rw [hl]
  apply List.ext_getElem
  · simp [hl]; omega
  · intro j j1 j2
    have j3 : j < 201 - p - s := by simp [hl] at j1; omega
    rw [List.getElem_drop, List.getElem_drop, List.getElem_take]
    rw [← rd_nat (xs := TV t 201) (by omega), ← rd_nat (xs := TV t 201) (by omega), TV_rd t 201 _ (by omega), TV_rd t 201 _ (by omega)]
    have e1 : ((s : Int)).toNat + j = s + j := by omega
    have e2 : ((s : Int) + (p : Int)).toNat + j = s + j + p := by omega
    rw [e1, e2, ← hp (s + j) (by omega)]
set_option maxHeartbeats 1000000 in
theorem main_ev (t : Nat) (t9 : t < 512) (l : List Int) (hl4 : l.length ≤ 4) (hl : ∀ p ∈ l, 0 ≤ p ∧ p ≤ 39) (r : Int × Int × Int) (m2 : Nat) (hm : m2 ≤ 63) (hb : ∀ q, m2 < q → t.testBit q = false) (hg : goodP (TV t 501) m2 r) :
    Ev (fun k => laws_FnHeapsTaken.j1 k (t : Int) l (TV t 201) (tmDone t (TV t 501) ((nsum (hv t l) : Nat) : Int) l l.length) r.2.2 r.1 r.2.1 false) true := by
  have hS := nsum_lt (hv t l) (hv_lt t l)
  have hlen := tmDone_len t (TV t 501) ((nsum (hv t l) : Nat) : Int) l l.length
  have hiff := tm_iff t l hl
  have hmem := tm_mem t (TV t 501) ((nsum (hv t l) : Nat) : Int) l
  have hV := TV_len t 201
  generalize hM : tmDone t (TV t 501) ((nsum (hv t l) : Nat) : Int) l l.length = M at *
  -- behind the moves: the period
  have last : ∀ x21 : Int, ∀ q : Nat, q = M.length → Ev (fun k => laws_FnHeapsTaken.l1 k (t : Int) l (TV t 201) M r.2.2 r.1 r.2.1 x21 (q : Int)) true := by
    intro x21 q hq
    refine Ev_round ?_
    simp only [laws_FnHeapsTaken.l1]
    refine Ev_neg (by omega) ?_
    rcases hg with rfl | ⟨s, p, rfl, h1, h2, h3⟩
    · exact Ev_neg (by simp) (Ev_as (Ev.now _) (by simp))
    · refine Ev_pos rfl ?_
      simp only
      rw [w64 (by omega) (by omega)]
      by_cases c : s + p ≤ 201
      · refine Ev_neg (by omega) ?_
        have hp : ∀ n, s ≤ n → tvN t n = tvN t (n + p) := fun n hn => tv_period t m2 s p hm hb (cut_at t m2 s p h2 h3) (n + 1) n (by omega) hn
        have hr := rep_true t s p c h1 hp
        have g1 := impl_repeats_ev (TV t 201) (s : Int) (p : Int) (by omega) ⟨by omega, by omega⟩ ⟨by omega, by omega⟩
        have g2 := spec_repeats_ev (TV t 201) (s : Int) (p : Int) (by omega) ⟨by omega, by omega⟩ ⟨by omega, by omega⟩
        rw [hr] at g1 g2
        exact Ev.bind g1 (Ev.bind g2 (Ev_pos rfl (Ev_pos rfl (Ev_pos rfl (Ev.now _)))))
      · exact Ev_pos (by omega) (Ev.now _)
  -- the moves
  have moves : ∀ (d q : Nat), q + d = M.length → Ev (fun k => laws_FnHeapsTaken.l1 k (t : Int) l (TV t 201) M r.2.2 r.1 r.2.1 ((nsum (hv t l) : Nat) : Int) (q : Int)) true := by
    intro d
    induction d with
    | zero => intro q h; exact last _ q (by omega)
    | succ d ih =>
      intro q h
      have hq : q < M.length := by omega
      obtain ⟨i, u0, g1, g2, g3, g4, g5⟩ := hmem M[q] l.length (by rw [hM]; exact List.getElem_mem hq)
      have e1 : rd l (i : Int) = l[i] := rd_nat g1
      obtain ⟨p0, p1⟩ := hl _ (List.getElem_mem g1)
      obtain ⟨H, hH⟩ := Int.eq_ofNat_of_zero_le p0
      rw [hH] at e1 p1
      rw [e1, Int.toNat_natCast] at g3 g4 g5
      obtain ⟨b, x⟩ := (win_iff t _ _ _ hS (by omega) (by omega)).1 g5
      have nx := ih (q + 1) (by omega)
      have hto : wrap64 ((H : Int) - (u0 : Int)) = ((H - u0 : Nat) : Int) := by rw [w64 (by omega) (by omega)]; omega
      refine Ev_round ?_
      simp only [laws_FnHeapsTaken.l1]
      rw [rdP2 hq, g2]
      simp only
      rw [e1, hto, wu64 (by omega) (by omega)]
      clear hto
      have hbit := bit_u64 t (H - u0) (by omega) (by omega)
      rw [hbit, b]
      clear hbit
      refine Ev_pos (by omega) (Ev_pos (by omega) (Ev_neg (by omega) (Ev_neg (by omega) (Ev_neg (by omega) (Ev_pos (by omega) (Ev_pos (by omega) (Ev_neg (by omega) (Ev_pos (by omega) (Ev_round ?_)))))))))
      simp only [laws_FnHeapsTaken.j4]
      rw [e1, TV_rd t 201 H (by omega), TV_rd t 201 u0 (by omega)]
      have v1 := tv_le t H
      have v2 := tv_le t u0
      have f1 : impl_PlusNim.f ((tvN t H : Nat) : Int) ((tvN t u0 : Nat) : Int) = some (((tvN t H ^^^ tvN t u0 : Nat)) : Int) := by
        unfold impl_PlusNim.f
        exact congrArg some (X_cast _ _ (by omega) (by omega))
      have f2 : impl_PlusNim.f ((nsum (hv t l) : Nat) : Int) (((tvN t H ^^^ tvN t u0 : Nat)) : Int) = some 0 := by
        unfold impl_PlusNim.f
        rw [show Go.bits .xor .u16 ((nsum (hv t l) : Nat) : Int) (((tvN t H ^^^ tvN t u0 : Nat)) : Int) = X ((nsum (hv t l) : Nat) : Int) (((tvN t H ^^^ tvN t u0 : Nat)) : Int) from rfl, X_cast _ _ hS (Nat.xor_lt_two_pow (n := 16) (by omega) (by omega)), ← Nat.xor_assoc, x]
        rfl
      rw [w64 (x := (q : Int) + 1) (by omega) (by omega)]
      exact Ev_neg (by simp) (Ev_pos (by omega) (Ev_pos (by omega) (Ev_pos (by omega) (Ev_pos (by omega) (Ev_pos (by omega) (Ev_pos (by omega) (Ev_bind1 f1 (Ev_bind1 f2 (Ev_pos rfl nx)))))))))
  -- the sum
  have sums : ∀ (d n : Nat), n + d = l.length → Ev (fun k => laws_FnHeapsTaken.l0 k (t : Int) l (TV t 201) M r.2.2 r.1 r.2.1 (sumP (TV t 201) (l.take n)) (n : Int)) true := by
    intro d
    induction d with
    | zero =>
      intro n h
      obtain rfl : n = l.length := by omega
      rw [List.take_length, sum_hv t 201 (by omega) l hl]
      refine Ev_round ?_
      simp only [laws_FnHeapsTaken.l0]
      refine Ev_neg (by omega) (Ev_neg ?_ (moves M.length 0 (by omega)))
      by_cases c : nsum (hv t l) = 0
      · have : M = [] := by
          apply Classical.byContradiction
          intro hne
          exact (hiff.1 hne) c
        rw [this, c]
        decide
      · have := List.length_pos_iff.2 (hiff.2 c)
        have b1 : decide ((M.length : Int) > 0) = true := decide_eq_true (by omega)
        have b2 : ((((nsum (hv t l) : Nat) : Int)) != 0) = true := by simpa using c
        rw [b1, b2]
        decide
    | succ d ih =>
      intro n h
      have hn : n < l.length := by omega
      have hp := hl _ (List.getElem_mem hn)
      have nx := ih (n + 1) (by omega)
      have e : sumP (TV t 201) (l.take (n + 1)) = X (sumP (TV t 201) (l.take n)) (rd (TV t 201) l[n]) := by
        unfold sumP
        rw [List.take_succ_eq_append_getElem hn, List.foldl_append]
        rfl
      rw [e] at nx
      clear e
      refine Ev_round ?_
      simp only [laws_FnHeapsTaken.l0]
      rw [rd_nat hn, w64 (x := (n : Int) + 1) (by omega) (by omega)]
      refine Ev_pos (by omega) (Ev_pos (by omega) (Ev_pos (by omega) (Ev_pos (by omega) ?_)))
      exact Ev_bind1 (show impl_PlusNim.f _ _ = some (X _ _) from rfl) nx
  refine Ev_round ?_
  simp only [laws_FnHeapsTaken.j1]
  exact Ev_neg (by simp) (sums l.length 0 (by omega))
theorem FnHeapsTaken : laws_FnHeapsTaken.Pure := by
  intro l0 l1 _ _ hw0 _ _ hw1
  refine Ev.rounds (r := true) ?_
  by_cases b0 : (l0.length : Int) > 4096
  · refine Ev_bind1 (a := true) (by unfold laws_f6big.f; rw [decide_eq_true b0]) (Ev_pos rfl (Ev_round ?_))
    simp only [laws_FnHeapsTaken.j0]
    exact Ev_pos (by simp) (Ev.now _)
  refine Ev_bind1 (a := false) (by unfold laws_f6big.f; rw [decide_eq_false b0]) (Ev_neg (by simp) ?_)
  by_cases b1 : (l1.length : Int) > 4096
  · refine Ev_bind1 (a := true) (by unfold laws_f6big.f; rw [decide_eq_true b1]) (Ev_round ?_)
    simp only [laws_FnHeapsTaken.j0]
    exact Ev_pos (by simp) (Ev.now _)
  refine Ev_bind1 (a := false) (by unfold laws_f6big.f; rw [decide_eq_false b1]) (Ev_round ?_)
  simp only [laws_FnHeapsTaken.j0]
  obtain ⟨t, ht, te, t0, t9⟩ := takes_ok l0 (fun x hx => wf_u8 (hw0 x hx)) (by omega)
  obtain ⟨l, hl, hl4, hl39⟩ := heaps_ok l1 (fun x hx => wf_u8 (hw1 x hx)) (by omega)
  obtain ⟨r, m2, k1, k2, k3, k4, r1, r2⟩ := period_both t (by omega) te t0
  have hR : tmR t l = (tmDone t (TV t 501) ((nsum (hv t l) : Nat) : Int) l l.length, 0) := by
    unfold tmR
    rw [if_neg (by omega), if_neg (by omega), if_pos (List.all_eq_true.2 (fun p hp => by have := hl39 p hp; unfold okHeap; simp; omega)), sum_hv t 501 (by omega) l hl39]
  have i1 := impl_tm_ev t (by omega) l
  have s1 := spec_tm_ev t (by omega) l
  have hlen := tmDone_len t (TV t 501) ((nsum (hv t l) : Nat) : Int) l l.length
  rw [hR] at i1 s1
  have hmain := main_ev t t9 l hl4 hl39 r m2 k2 k3 k4
  have hV := TV_len t 201
  refine Ev_neg (by simp) (Ev_bind1 ht (Ev.bind hl (Ev.bind (impl_tv200 t (by omega) te) (Ev.bind (spec_tv200 t (by omega) te) (Ev.bind i1 (Ev.bind s1 (Ev.bind r2 (Ev.bind r1 ?_))))))))
  refine Ev_pos rfl (Ev_pos rfl (Ev.bind (sameNims_ev _ (by simp only; omega)) (Ev_pos rfl (Ev_pos (by simp only; omega) (Ev_pos rfl (Ev_pos rfl (Ev.bind (samePairs_ev _ (by simp only; omega)) (Ev_pos rfl (Ev_pos rfl (Ev_pos rfl ?_))))))))))
  rw [show (r.2.1 != r.2.1) = false by simp]
  exact hmain

end Go.Proofs.Yteinllalhiflcaa.Pure
