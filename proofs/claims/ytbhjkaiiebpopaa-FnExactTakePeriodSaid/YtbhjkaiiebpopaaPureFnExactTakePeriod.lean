/- FnExactTakePeriod: the printed pure statement holds: at every input the law's function answers true; no condition but the bounds of its kinds. -/
import Derived.Test.YtbhjkaiiebpopaaPFnExactTakePeriodx4
import Derived.Test.YtbhjkaiiebpopaaLib
import Derived.Test.YtbhjkaiiebpopaaLib3
set_option linter.unusedVariables false
set_option linter.unusedSimpArgs false
namespace Go.Proofs.Ytbhjkaiiebpopaa.Pure
open Go.RowKit Go.Proofs.Ytbhjkaiiebpopaa.PFnExactTakePeriod Go.Proofs.YtbhjkaiiebpopaaW.PrintWords Go.Proofs.YtbhjkaiiebpopaaW.PrintLast Go.Proofs.Ytbhjkaiiebpopaa.Lib

theorem least_ev (l : List Int) (hl : l.length ≤ 65535) (hr : ∀ x ∈ l, 0 ≤ x ∧ x ≤ 65535) : Ev (fun k => spec_l03Least.f k l) ((mexN l : Nat) : Int) := by
  have hm := mexN_is l
  have hle := mexN_le l
  have last : ∀ (d n : Nat), n + d = mexN l → Ev (fun k => spec_l03Least.l1 k (flags (l.length + 1) l) (n : Int)) ((mexN l : Nat) : Int) := by
    intro d
    induction d with
    | zero =>
      intro n h
      obtain rfl : n = mexN l := by omega
      refine Ev_round ?_
      simp only [spec_l03Least.l1]
      refine Ev_pos (by omega) (Ev_pos (by rw [flags_length]; omega) (Ev_neg ?_ ?_))
      · rw [rdOf, List.getD_eq_getElem?_getD, List.getElem?_eq_getElem (by rw [Int.toNat_natCast, flags_length]; omega), Option.getD_some, flags_get]
        simp [hm.1]
      · rw [wu16 (by omega) (by omega)]
        exact Ev.now _
    | succ d ih =>
      intro n h
      refine Ev_round ?_
      simp only [spec_l03Least.l1]
      refine Ev_pos (by omega) (Ev_pos (by rw [flags_length]; omega) (Ev_pos ?_ ?_))
      · rw [rdOf, List.getD_eq_getElem?_getD, List.getElem?_eq_getElem (by rw [Int.toNat_natCast, flags_length]; omega), Option.getD_some, flags_get]
        simp [hm.2 n (by omega)]
      · rw [w64 (by omega) (by omega)]
        exact ih (n + 1) (by omega)
  have main : ∀ (d n : Nat), n + d = l.length → Ev (fun k => spec_l03Least.l0 k l (flags (l.length + 1) (l.take n)) (n : Int)) ((mexN l : Nat) : Int) := by
    intro d
    induction d with
    | zero =>
      intro n h
      obtain rfl : n = l.length := by omega
      refine Ev_round ?_
      simp only [spec_l03Least.l0]
      refine Ev_neg (by omega) ?_
      rw [List.take_length]
      exact last (mexN l) 0 (by omega)
    | succ d ih =>
      intro n h
      have hn : n < l.length := by omega
      have hx := hr _ (List.getElem_mem hn)
      have ht : l.take (n + 1) = l.take n ++ [l[n]] := by rw [List.take_succ_eq_append_getElem hn]
      refine Ev_round ?_
      simp only [spec_l03Least.l0]
      refine Ev_pos (by omega) (Ev_pos (by omega) ?_)
      rw [rd_nat hn, w64 (by omega) (by omega), w64 (by omega) (by omega), flags_length]
      have nx := ih (n + 1) (by omega)
      rw [ht] at nx
      by_cases c : l[n] < ((l.length + 1 : Nat) : Int)
      · refine Ev_pos c (Ev_pos (by omega) (Ev_pos c ?_))
        rw [flags_set _ _ _ (by omega), Int.toNat_of_nonneg hx.1]
        exact nx
      · refine Ev_neg c ?_
        rw [flags_out _ _ _ (by omega)] at nx
        exact nx
  unfold spec_l03Least.f
  rw [w64 (by omega) (by omega)]
  refine Ev_pos (by omega) (Ev_pos (by omega) ?_)
  have := main l.length 0 (by omega)
  rw [List.take_zero, flags_nil] at this
  exact this

theorem spec_take_ev (t H : Nat) (ht : t ≤ 18446744073709551615) (hH : H ≤ 500) : Ev (fun k => spec_l03Take.f k (t : Int) (H : Int)) (TV t (H + 1)) := by
  have outer : ∀ (d n : Nat), n + d = H + 1 → Ev (fun k => spec_l03Take.l0 k (t : Int) (H : Int) (TV t n) (n : Int)) (TV t (H + 1)) := by
    intro d
    induction d with
    | zero =>
      intro n hn
      obtain rfl : n = H + 1 := by omega
      refine Ev_round ?_
      simp only [spec_l03Take.l0]
      exact Ev_neg (by omega) (Ev.now _)
    | succ d ih =>
      intro n hn
      refine Ev_round ?_
      simp only [spec_l03Take.l0]
      refine Ev_pos (by omega) ?_
      have nx := ih (n + 1) (by omega)
      have inner : ∀ (e m : Nat), m + e = min n 63 → Ev (fun k => spec_l03Take.l1 k (t : Int) (H : Int) (TV t n) (n : Int) (takeTo t (TV t n) n m) ((m + 1 : Nat) : Int)) (TV t (H + 1)) := by
        intro e
        induction e with
        | zero =>
          intro m hm
          obtain rfl : m = min n 63 := by omega
          refine Ev_round ?_
          simp only [spec_l03Take.l1]
          have hl1 := takeTo_len t (TV t n) n (min n 63)
          have hl2 := takeTo_range t n (min n 63) (by omega)
          have fin : ∀ b, b = false → Ev (fun k => spec_l03Take.j2 k (t : Int) (H : Int) (TV t n) (n : Int) (takeTo t (TV t n) n (min n 63)) ((min n 63 + 1 : Nat) : Int) b) (TV t (H + 1)) := by
            intro b hb
            refine Ev_round ?_
            simp only [spec_l03Take.j2]
            refine Ev_neg (by simp [hb]) (Ev.bind (least_ev _ (by omega) (fun x hx => by have := hl2 x hx; omega)) (Ev_pos (by rw [TV_len]; omega) ?_))
            rw [w64 (by omega) (by omega)]
            exact nx
          exact Ev_ite' (fun c => fin _ (by apply decide_eq_false; omega)) (fun c => fin _ rfl)
        | succ e ihe =>
          intro m hm
          refine Ev_round ?_
          simp only [spec_l03Take.l1]
          refine Ev_pos (by omega) (Ev_round ?_)
          simp only [spec_l03Take.j2]
          have e1 : IntKind.u64.wrap ((m + 1 : Nat) : Int) = ((m + 1 : Nat) : Int) := wu64 (by omega) (by omega)
          have e2 : wrap64 (((m + 1 : Nat) : Int) + 1) = ((m + 1 + 1 : Nat) : Int) := by rw [w64 (by omega) (by omega)]; omega
          have e3 : wrap64 ((n : Int) - ((m + 1 : Nat) : Int)) = ((n - (m + 1) : Nat) : Int) := by rw [w64 (by omega) (by omega)]; omega
          rw [e1, e2, e3, bit_u64 t (m + 1) ht (by omega)]
          have nx2 := ihe (m + 1) (by omega)
          rw [takeTo_succ] at nx2
          have hl1 := takeTo_len t (TV t n) n m
          refine Ev_pos (by simp; omega) (Ev_pos (by omega) ?_)
          by_cases c : t.testBit (m + 1) = true
          · rw [if_pos c] at nx2
            exact Ev_pos (by simp [c]) (Ev_pos (by omega) (Ev_pos (by rw [TV_len]; omega) (Ev_pos (by omega) nx2)))
          · rw [if_neg c, List.append_nil] at nx2
            exact Ev_neg (by simp [c]) nx2
      have := inner (min n 63) 0 (by omega)
      rw [takeTo_zero] at this
      exact this
  exact outer (H + 1) 0 (by omega)

/-- A part of a list. -/
def cutL (l : List Int) (a m : Nat) : List Int := (l.take (a + m)).drop a
theorem cutL_len (l : List Int) (a m : Nat) (h : a + m ≤ l.length) : (cutL l a m).length = m := by simp [cutL]; omega
theorem alike_ev (l : List Int) (a p m : Nat) (h : a + p + m ≤ l.length) (hl : l.length ≤ 100000) : Ev (fun k => spec_l03Alike.f k l (a : Int) (p : Int) (m : Int)) (decide (cutL l a m = cutL l (a + p) m)) := by
  have e1 := cutL_len l a m (by omega)
  have e2 := cutL_len l (a + p) m (by omega)
  have g := eq_gen (L := fun k i => spec_l03Alike.l0 k l (a : Int) (p : Int) (m : Int) i) (fun b => b) (a : Int) _ _ (e1.trans e2.symm)
    (fun k n hh => by
      rw [e1] at hh
      simp only [spec_l03Alike.l0]
      have e3 : wrap64 ((a : Int) + (n : Int) + (p : Int)) = ((a + p + n : Nat) : Int) := by rw [w64 (by omega) (by omega)]; omega
      have e4 : wrap64 ((a : Int) + (m : Int)) = (a : Int) + m := w64 (by omega) (by omega)
      have e5 : wrap64 ((a : Int) + (n : Int) + 1) = (a : Int) + ((n + 1 : Nat) : Int) := by rw [w64 (by omega) (by omega)]; omega
      have e6 : (a : Int) + (n : Int) = ((a + n : Nat) : Int) := by omega
      rw [e3, e4, e5]
      rw [if_pos (by omega), if_pos (by omega), if_pos (by omega), if_pos (by omega), if_pos (by omega), e6, rd_nat (by omega), rd_nat (by omega)]
      simp only [cutL, List.getElem_drop, List.getElem_take])
    (fun k => by
      simp only [spec_l03Alike.l0]
      rw [e1, w64 (by omega) (by omega), if_neg (by omega)])
    _ 0 (Nat.zero_add _) (by simp)
  unfold spec_l03Alike.f
  simpa using g

theorem index_false_ev (fl : List Bool) (n : Nat) (hn : n < fl.length) (hl : fl.length ≤ 9223372036854775806) (h1 : fl[n] = false) (h2 : ∀ m (hm : m < n), fl[m] = true) :
    Ev (fun k => slices_Index_bool_bool.f k fl false) (n : Int) := by
  have main : ∀ (d m : Nat), m + d = n → Ev (fun k => slices_Index_bool_bool.l0 k fl false fl.length (m : Int)) (n : Int) := by
    intro d
    induction d with
    | zero =>
      intro m hm
      obtain rfl : m = n := by omega
      refine Ev_round ?_
      simp only [slices_Index_bool_bool.l0]
      refine Ev_pos (by omega) (Ev_pos (by omega) (Ev_pos (by omega) (Ev_pos ?_ (Ev.now _))))
      simp [rdOf, List.getD_eq_getElem?_getD, List.getElem?_eq_getElem hn, h1]
    | succ d ih =>
      intro m hm
      refine Ev_round ?_
      simp only [slices_Index_bool_bool.l0]
      refine Ev_pos (by omega) (Ev_pos (by omega) (Ev_pos (by omega) (Ev_neg ?_ ?_)))
      · simp [rdOf, List.getD_eq_getElem?_getD, List.getElem?_eq_getElem (show m < fl.length by omega), h2 m (by omega)]
      · rw [w64 (by omega) (by omega)]
        exact ih (m + 1) (by omega)
  exact main n 0 (by omega)

theorem mex_index (l : List Int) : (mexN l < (flags (l.length + 1) l).length) ∧ (∀ h, (flags (l.length + 1) l)[mexN l]'h = false) ∧ ∀ m (hm : m < mexN l) h, (flags (l.length + 1) l)[m]'h = true := by
  have hm := mexN_is l
  have hle := mexN_le l
  refine ⟨by rw [flags_length]; omega, fun h => ?_, fun m hlt h => ?_⟩
  · rw [flags_get]; simp [hm.1]
  · rw [flags_get]; simp [hm.2 m hlt]
theorem impl_mex_ev (l : List Int) (hl : l.length ≤ 140737488355327) (hr : ∀ x ∈ l, 0 ≤ x ∧ x ≤ 65535) : Ev (fun k => impl_mex.f k l) ((mexN l : Nat) : Int) := by
  have main : ∀ (d n : Nat), n + d = l.length → Ev (fun k => impl_mex.l0 k (flags (l.length + 1) (l.take n)) l l.length (n : Int)) ((mexN l : Nat) : Int) := by
    intro d
    induction d with
    | zero =>
      intro n h
      obtain rfl : n = l.length := by omega
      refine Ev_round ?_
      simp only [impl_mex.l0]
      refine Ev_neg (by omega) (Ev.bind ?_ (Ev.now _))
      rw [List.take_length]
      obtain ⟨a, b, c⟩ := mex_index l
      exact index_false_ev _ _ a (by rw [flags_length]; omega) (b a) (fun m hm => c m hm (by omega))
    | succ d ih =>
      intro n h
      have hn : n < l.length := by omega
      have hx := hr _ (List.getElem_mem hn)
      have ht : l.take (n + 1) = l.take n ++ [l[n]] := by rw [List.take_succ_eq_append_getElem hn]
      refine Ev_round ?_
      simp only [impl_mex.l0]
      refine Ev_pos (by omega) (Ev_pos (by omega) (Ev_pos (by omega) ?_))
      rw [rd_nat hn, w64 (by omega) (by omega), w64 (by omega) (by omega), flags_length]
      have nx := ih (n + 1) (by omega)
      rw [ht] at nx
      by_cases c : l[n] < ((l.length + 1 : Nat) : Int)
      · refine Ev_pos c (Ev_pos (by omega) (Ev_pos c ?_))
        rw [flags_set _ _ _ (by omega), Int.toNat_of_nonneg hx.1]
        exact nx
      · refine Ev_neg c ?_
        rw [flags_out _ _ _ (by omega)] at nx
        exact nx
  unfold impl_mex.f
  rw [w64 (by omega) (by omega)]
  refine Ev_pos (by omega) (Ev_pos (by omega) ?_)
  have := main l.length 0 (by omega)
  rw [List.take_zero, flags_nil] at this
  exact this

theorem may_take (t m : Nat) (ht : t ≤ 18446744073709551615) (hm : m ≤ 63) : impl_mayTake.f (t : Int) (m : Int) = some (t.testBit m) := by
  unfold impl_mayTake.f
  rw [if_pos (by omega), if_pos (by omega), bit_u64 t m ht hm]
  by_cases c : t.testBit m = true <;> simp [c]
theorem impl_take_ev (t H : Nat) (ht : t ≤ 18446744073709551615) (hH : H ≤ 500) : Ev (fun k => impl_takeValues.f k (t : Int) (H : Int)) (TV t (H + 1)) := by
  have outer : ∀ (d n : Nat), n + d = H + 1 → Ev (fun k => impl_takeValues.l0 k (t : Int) (TV t n) ((H + 1 : Nat) : Int) (n : Int)) (TV t (H + 1)) := by
    intro d
    induction d with
    | zero =>
      intro n hn
      obtain rfl : n = H + 1 := by omega
      refine Ev_round ?_
      simp only [impl_takeValues.l0]
      exact Ev_neg (by omega) (Ev.now _)
    | succ d ih =>
      intro n hn
      refine Ev_round ?_
      simp only [impl_takeValues.l0]
      refine Ev_pos (by omega) ?_
      have nx := ih (n + 1) (by omega)
      have hmn : mn (n : Int) 63 = ((min n 63 : Nat) : Int) := by unfold mn; split <;> omega
      have inner : ∀ (e m : Nat), m + e = min n 63 → Ev (fun k => impl_takeValues.l1 k (t : Int) (TV t n) (n : Int) (takeTo t (TV t n) n m) ((m + 1 : Nat) : Int) ((H + 1 : Nat) : Int) (n : Int)) (TV t (H + 1)) := by
        intro e
        induction e with
        | zero =>
          intro m hm
          obtain rfl : m = min n 63 := by omega
          refine Ev_round ?_
          simp only [impl_takeValues.l1]
          have hl1 := takeTo_len t (TV t n) n (min n 63)
          have hl2 := takeTo_range t n (min n 63) (by omega)
          have hml := mexN_le (takeTo t (TV t n) n (min n 63))
          rw [hmn]
          refine Ev_neg (by omega) (Ev.bind (impl_mex_ev _ (by omega) (fun x hx => by have := hl2 x hx; omega)) (Ev_pos (by rw [TV_len]; omega) ?_))
          rw [w64 (by omega) (by omega), wu16 (by omega) (by omega)]
          exact nx
        | succ e ihe =>
          intro m hm
          refine Ev_round ?_
          simp only [impl_takeValues.l1]
          have e2 : wrap64 (((m + 1 : Nat) : Int) + 1) = ((m + 1 + 1 : Nat) : Int) := by rw [w64 (by omega) (by omega)]; omega
          have e3 : wrap64 ((n : Int) - ((m + 1 : Nat) : Int)) = ((n - (m + 1) : Nat) : Int) := by rw [w64 (by omega) (by omega)]; omega
          rw [hmn, e2, e3]
          have nx2 := ihe (m + 1) (by omega)
          rw [takeTo_succ] at nx2
          have hl1 := takeTo_len t (TV t n) n m
          refine Ev_pos (by omega) (Ev_bind1 (may_take t (m + 1) ht (by omega)) ?_)
          by_cases c : t.testBit (m + 1) = true
          · rw [if_pos c] at nx2
            exact Ev_pos c (Ev_pos (by omega) (Ev_pos (by rw [TV_len]; omega) (Ev_pos (by omega) nx2)))
          · rw [if_neg c, List.append_nil] at nx2
            exact Ev_neg c nx2
      have := inner (min n 63) 0 (by omega)
      rw [takeTo_zero] at this
      exact this
  have := outer (H + 1) 0 (by omega)
  unfold impl_takeValues.f
  rw [w64 (by omega) (by omega)]
  exact this

theorem impl_equal_ev (xs ys : List Int) (hn : xs.length ≤ 140737488355328) : Ev (fun k => impl_Nimber.f k xs ys) (decide (xs = ys)) := by
  by_cases h : xs.length = ys.length
  · refine Ev_pos (by omega) ?_
    have g := eq_gen (L := fun k i => impl_Nimber.l0 k xs ys xs.length i) (fun b => b) 0 xs ys h
      (fun k n hh => by
        simp only [impl_Nimber.l0, Int.zero_add]
        rw [if_pos (by omega), if_pos (by omega), if_pos (by omega), if_pos (by omega), w64 (by omega) (by omega), rd_nat (by omega), rd_nat (by omega)]
        rfl)
      (fun k => by simp only [impl_Nimber.l0, Int.zero_add]; rw [if_neg (by omega)])
      _ 0 (Nat.zero_add _) (by simp)
    simpa using g
  · refine Ev_neg (by omega) (Ev_as (Ev.now _) ?_)
    have : xs ≠ ys := fun e => h (by rw [e])
    simp [this]

theorem wr2 (s p m : Nat) (h : s ≤ 600 ∧ p ≤ 600 ∧ m ≤ 600) : wrap64 (wrap64 ((s : Int) + (p : Int)) + (m : Int)) = (s : Int) + p + m := by rw [w64 (x := (s : Int) + p) (by omega) (by omega), w64 (by omega) (by omega)]
theorem wr1 (s p : Nat) (h : s ≤ 600 ∧ p ≤ 600) : wrap64 ((s : Int) + (p : Int)) = (s : Int) + p := w64 (by omega) (by omega)
theorem wr0 (s : Nat) (h : s ≤ 600) : wrap64 ((s : Int) + 1) = ((s + 1 : Nat) : Int) := by rw [w64 (by omega) (by omega)]; omega
theorem spec_l2_end (vals : List Int) (m : Nat) (hm : 1 ≤ m ∧ m ≤ 63) (hv : vals.length = 501) (s p : Nat) (hs : s ≤ 500) (hp : p ≤ 501) (c : ¬ (s : Int) + p + m ≤ 500) {r} (h : Ev (fun k => spec_TakePeriod.l1 k (m : Int) vals ((s + 1 : Nat) : Int)) r) : Ev (fun k => spec_TakePeriod.l2 k (m : Int) vals (s : Int) (p : Int)) r := by
  refine Ev_round ?_
  simp only [spec_TakePeriod.l2]
  rw [wr2 s p m ⟨by omega, by omega, by omega⟩, wr0 s (by omega)]
  exact Ev_neg c h
theorem impl_l2_end (vals : List Int) (m : Nat) (hm : 1 ≤ m ∧ m ≤ 63) (hv : vals.length = 501) (s p : Nat) (hs : s ≤ 500) (hp : p ≤ 501) (c : ¬ (s : Int) + p + m ≤ 500) {r} (h : Ev (fun k => impl_TakePeriod.l1 k (m : Int) vals ((s + 1 : Nat) : Int)) r) : Ev (fun k => impl_TakePeriod.l2 k (m : Int) vals (s : Int) (p : Int)) r := by
  refine Ev_round ?_
  simp only [impl_TakePeriod.l2]
  rw [wr2 s p m ⟨by omega, by omega, by omega⟩, wr0 s (by omega)]
  exact Ev_neg c h
theorem spec_l2_hit (vals : List Int) (m : Nat) (hm : 1 ≤ m ∧ m ≤ 63) (hv : vals.length = 501) (s p : Nat) (c : (s : Int) + p + m ≤ 500) (b : cutL vals s m = cutL vals (s + p) m) : Ev (fun k => spec_TakePeriod.l2 k (m : Int) vals (s : Int) (p : Int)) ((s : Int), (p : Int), 0) := by
  refine Ev_round ?_
  simp only [spec_TakePeriod.l2]
  rw [wr2 s p m ⟨by omega, by omega, by omega⟩]
  exact Ev_pos c (Ev.bind (alike_ev vals s p m (by omega) (by omega)) (Ev_pos (by simp [b]) (Ev.now _)))
theorem spec_l2_miss (vals : List Int) (m : Nat) (hm : 1 ≤ m ∧ m ≤ 63) (hv : vals.length = 501) (s p : Nat) (c : (s : Int) + p + m ≤ 500) (b : ¬ cutL vals s m = cutL vals (s + p) m) {r} (h : Ev (fun k => spec_TakePeriod.l2 k (m : Int) vals (s : Int) ((p + 1 : Nat) : Int)) r) : Ev (fun k => spec_TakePeriod.l2 k (m : Int) vals (s : Int) (p : Int)) r := by
  refine Ev_round ?_
  simp only [spec_TakePeriod.l2]
  rw [wr2 s p m ⟨by omega, by omega, by omega⟩, wr0 p (by omega)]
  exact Ev_pos c (Ev.bind (alike_ev vals s p m (by omega) (by omega)) (Ev_neg (by simp [b]) h))
theorem impl_l2_any (vals : List Int) (m : Nat) (hm : 1 ≤ m ∧ m ≤ 63) (hv : vals.length = 501) (s p : Nat) (c : (s : Int) + p + m ≤ 500) {r} (h : Ev (fun k => if (decide (cutL vals s m = cutL vals (s + p) m)) = true then some ((s : Int), (p : Int), 0) else impl_TakePeriod.l2 k (m : Int) vals (s : Int) ((p + 1 : Nat) : Int)) r) : Ev (fun k => impl_TakePeriod.l2 k (m : Int) vals (s : Int) (p : Int)) r := by
  have hb := impl_equal_ev (cutL vals s m) (cutL vals (s + p) m) (by rw [cutL_len _ _ _ (by omega)]; omega)
  have t1 : ((s : Int) + (m : Int)).toNat = s + m := by omega
  have t2 : ((s : Int) + (p : Int) + (m : Int)).toNat = s + p + m := by omega
  have t3 : ((s : Int) + (p : Int)).toNat = s + p := by omega
  have e7 : wrap64 ((s : Int) + p + m) = (s : Int) + p + m := w64 (by omega) (by omega)
  refine Ev_round ?_
  simp only [impl_TakePeriod.l2]
  rw [wr1 s p ⟨by omega, by omega⟩, wr1 s m ⟨by omega, by omega⟩, e7, wr0 p (by omega)]
  refine Ev_pos c (Ev_pos (by omega) (Ev_pos (by omega) (Ev_pos (by omega) (Ev_pos (by omega) (Ev_pos (by omega) (Ev_pos (by omega) ?_))))))
  rw [t1, t2, t3]
  exact Ev.bind hb h
/-- The two searches for a period go hand in hand. -/
theorem period_ev (vals : List Int) (m : Nat) (hm : 1 ≤ m ∧ m ≤ 63) (hv : vals.length = 501) : ∃ r, Ev (fun k => spec_TakePeriod.l1 k (m : Int) vals 0) r ∧ Ev (fun k => impl_TakePeriod.l1 k (m : Int) vals 0) r := by
  have outer : ∀ (d s : Nat), s + d = 500 → ∃ r, Ev (fun k => spec_TakePeriod.l1 k (m : Int) vals (s : Int)) r ∧ Ev (fun k => impl_TakePeriod.l1 k (m : Int) vals (s : Int)) r := by
    intro d
    induction d with
    | zero =>
      intro s hs
      have e1 := wr2 s 1 m ⟨by omega, by omega, by omega⟩
      refine ⟨(0, 0, 6), Ev_round ?_, Ev_round ?_⟩
      · simp only [spec_TakePeriod.l1]; exact Ev_neg (by rw [show (1 : Int) = ((1 : Nat) : Int) from rfl, e1]; omega) (Ev.now _)
      · simp only [impl_TakePeriod.l1]; exact Ev_neg (by rw [show (1 : Int) = ((1 : Nat) : Int) from rfl, e1]; omega) (Ev.now _)
    | succ d ih =>
      intro s hs
      have e1 := wr2 s 1 m ⟨by omega, by omega, by omega⟩
      by_cases c : (s : Int) + 1 + m ≤ 500
      · obtain ⟨r, h1, h2⟩ := ih (s + 1) (by omega)
        have inner : ∀ (e p : Nat), p + e = 501 → 1 ≤ p → ∃ r, Ev (fun k => spec_TakePeriod.l2 k (m : Int) vals (s : Int) (p : Int)) r ∧ Ev (fun k => impl_TakePeriod.l2 k (m : Int) vals (s : Int) (p : Int)) r := by
          intro e
          induction e with
          | zero =>
            intro p hp _
            exact ⟨r, spec_l2_end vals m hm hv s p (by omega) (by omega) (by omega) h1, impl_l2_end vals m hm hv s p (by omega) (by omega) (by omega) h2⟩
          | succ e ihe =>
            intro p hp hp1
            by_cases cp : (s : Int) + p + m ≤ 500
            · by_cases b : cutL vals s m = cutL vals (s + p) m
              · exact ⟨_, spec_l2_hit vals m hm hv s p cp b, impl_l2_any vals m hm hv s p cp (Ev_pos (decide_eq_true b) (Ev.now _))⟩
              · obtain ⟨q, q1, q2⟩ := ihe (p + 1) (by omega) (by omega)
                exact ⟨q, spec_l2_miss vals m hm hv s p cp b q1, impl_l2_any vals m hm hv s p cp (Ev_neg (by simp [b]) q2)⟩
            · exact ⟨r, spec_l2_end vals m hm hv s p (by omega) (by omega) cp h1, impl_l2_end vals m hm hv s p (by omega) (by omega) cp h2⟩
        obtain ⟨q, q1, q2⟩ := inner 500 1 (by omega) (by omega)
        refine ⟨q, Ev_round ?_, Ev_round ?_⟩
        · simp only [spec_TakePeriod.l1]; exact Ev_pos (by rw [show (1 : Int) = ((1 : Nat) : Int) from rfl, e1]; omega) q1
        · simp only [impl_TakePeriod.l1]; exact Ev_pos (by rw [show (1 : Int) = ((1 : Nat) : Int) from rfl, e1]; omega) q2
      · refine ⟨(0, 0, 6), Ev_round ?_, Ev_round ?_⟩
        · simp only [spec_TakePeriod.l1]; exact Ev_neg (by rw [show (1 : Int) = ((1 : Nat) : Int) from rfl, e1]; omega) (Ev.now _)
        · simp only [impl_TakePeriod.l1]; exact Ev_neg (by rw [show (1 : Int) = ((1 : Nat) : Int) from rfl, e1]; omega) (Ev.now _)
  exact outer 500 0 (by omega)
/-- Both go down to the greatest number that may be taken. -/
theorem top_ev (t : Nat) (ht : t ≤ 18446744073709551615) (h0 : t % 2 = 0) (h1 : t ≠ 0) : ∀ (d m : Nat), m = d → m ≤ 63 → t < 2 ^ (m + 1) →
    ∃ r, Ev (fun k => spec_TakePeriod.l0 k (t : Int) (m : Int)) r ∧ Ev (fun k => impl_TakePeriod.l0 k (t : Int) (m : Int)) r := by
  intro d
  induction d with
  | zero =>
    intro m hm _ hlt
    subst hm
    simp at hlt
    omega
  | succ d ih =>
    intro m hm hm2 hlt
    have e1 : IntKind.u64.wrap (m : Int) = (m : Int) := wu64 (by omega) (by omega)
    have e2 : wrap64 ((m : Int) - 1) = ((m - 1 : Nat) : Int) := by rw [w64 (by omega) (by omega)]; omega
    by_cases c : t.testBit m = true
    · obtain ⟨r, r1, r2⟩ := period_ev (TV t 501) m ⟨by omega, hm2⟩ (TV_len _ _)
      refine ⟨r, Ev_round ?_, Ev_round ?_⟩
      · simp only [spec_TakePeriod.l0]
        rw [e1, bit_u64 t m ht hm2]
        exact Ev_pos (by omega) (Ev_neg (by simp [c]) (Ev.bind (spec_take_ev t 500 ht (by omega)) r1))
      · simp only [impl_TakePeriod.l0]
        exact Ev_bind1 (may_take t m ht hm2) (Ev_pos c (Ev.bind (impl_take_ev t 500 ht (by omega)) r2))
    · have hb : t.testBit m = false := by simpa using c
      have hlt2 : t < 2 ^ (m - 1 + 1) := by
        rw [show m - 1 + 1 = m by omega]
        apply Nat.lt_pow_two_of_testBit
        intro i hi
        by_cases e : i = m
        · rw [e]; exact hb
        · exact Nat.testBit_lt_two_pow (Nat.lt_of_lt_of_le hlt (Nat.pow_le_pow_right (by omega) (by omega)))
      obtain ⟨r, r1, r2⟩ := ih (m - 1) (by omega) (by omega) hlt2
      refine ⟨r, Ev_round ?_, Ev_round ?_⟩
      · simp only [spec_TakePeriod.l0]
        rw [e1, e2, bit_u64 t m ht hm2]
        exact Ev_pos (by omega) (Ev_pos (by simp [hb]) r1)
      · simp only [impl_TakePeriod.l0]
        rw [e2]
        exact Ev_bind1 (may_take t m ht hm2) (Ev_neg (by simp [hb]) r2)
theorem FnExactTakePeriod : laws_FnExactTakePeriod.Pure := by
  intro t wt
  obtain ⟨h0, h1⟩ := wf_u64 wt
  refine Ev.rounds (r := true) ?_
  have main : ∃ r, Ev (fun k => spec_TakePeriod.f k t) r ∧ Ev (fun k => impl_TakePeriod.f k t) r := by
    unfold spec_TakePeriod.f impl_TakePeriod.f
    rw [and1_u64 h0 h1]
    by_cases c : t % 2 = 1
    · exact ⟨(0, 0, 2), Ev_pos c (Ev_round (by simp only [spec_TakePeriod.j0]; exact Ev_pos (by simp) (Ev.now _))), Ev_pos c (Ev_round (by simp only [impl_TakePeriod.j0]; exact Ev_pos (by simp) (Ev.now _)))⟩
    · by_cases z : t = 0
      · exact ⟨(0, 0, 2), Ev_neg c (Ev_round (by simp only [spec_TakePeriod.j0]; exact Ev_pos (by simp [z]) (Ev.now _))), Ev_neg c (Ev_round (by simp only [impl_TakePeriod.j0]; exact Ev_pos (by simp [z]) (Ev.now _)))⟩
      · obtain ⟨T, rfl⟩ := Int.eq_ofNat_of_zero_le h0
        obtain ⟨r, r1, r2⟩ := top_ev T (by omega) (by omega) (by omega) 63 63 rfl (by omega) (by omega)
        exact ⟨r, Ev_neg c (Ev_round (by simp only [spec_TakePeriod.j0]; exact Ev_neg (by simp; omega) r1)), Ev_neg c (Ev_round (by simp only [impl_TakePeriod.j0]; exact Ev_neg (by simp; omega) r2))⟩
  obtain ⟨r, h1, h2⟩ := main
  exact Ev.bind h1 (Ev.bind h2 (Ev_pos rfl (Ev_pos rfl (Ev_pos rfl (Ev.now _)))))

end Go.Proofs.Ytbhjkaiiebpopaa.Pure
