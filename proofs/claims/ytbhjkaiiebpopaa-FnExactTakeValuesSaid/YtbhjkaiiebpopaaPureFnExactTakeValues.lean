/- FnExactTakeValues: the printed pure statement holds: at every input the law's function answers true; no condition but the bounds of its kinds. -/
import Derived.Test.YtbhjkaiiebpopaaPFnExactTakeValuesx3
import Derived.Test.YtbhjkaiiebpopaaLib
import Derived.Test.YtbhjkaiiebpopaaLib3
set_option linter.unusedVariables false
set_option linter.unusedSimpArgs false
namespace Go.Proofs.Ytbhjkaiiebpopaa.Pure
open Go.RowKit Go.Proofs.Ytbhjkaiiebpopaa.PFnExactTakeValues Go.Proofs.YtbhjkaiiebpopaaW.PrintWords Go.Proofs.YtbhjkaiiebpopaaW.PrintLast Go.Proofs.Ytbhjkaiiebpopaa.Lib

theorem least_ev (l : List Int) (hl : l.length ≤ 65535) (hr : ∀ x ∈ l, 0 ≤ x ∧ x ≤ 65535) : Ev (fun k => spec_l03Least.f k l) ((mexN l : Nat) : Int) := by
  have hm := mexN_is l
  have hle := mexN_le l
  have last : ∀ (d n : Nat), n + d = mexN l → Ev (fun k => spec_l03Least.l1 k (flags (l.length + 1) l) (n : Int)) ((mexN l : Nat) : Int) := by
    intro d
    induction d with
    | zero =>
      intro n h
      obtain rfl : n = mexN l := by omega
      refine Ev_round ?_
      simp only [spec_l03Least.l1]
      refine Ev_pos (by omega) (Ev_pos (by rw [flags_length]; omega) (Ev_neg ?_ ?_))
      · rw [rdOf, List.getD_eq_getElem?_getD, List.getElem?_eq_getElem (by rw [Int.toNat_natCast, flags_length]; omega), Option.getD_some, flags_get]
        simp [hm.1]
      · rw [wu16 (by omega) (by omega)]
        exact Ev.now _
    | succ d ih =>
      intro n h
      refine Ev_round ?_
      simp only [spec_l03Least.l1]
      refine Ev_pos (by omega) (Ev_pos (by rw [flags_length]; omega) (Ev_pos ?_ ?_))
      · rw [rdOf, List.getD_eq_getElem?_getD, List.getElem?_eq_getElem (by rw [Int.toNat_natCast, flags_length]; omega), Option.getD_some, flags_get]
        simp [hm.2 n (by omega)]
      · rw [w64 (by omega) (by omega)]
        exact ih (n + 1) (by omega)
  have main : ∀ (d n : Nat), n + d = l.length → Ev (fun k => spec_l03Least.l0 k l (flags (l.length + 1) (l.take n)) (n : Int)) ((mexN l : Nat) : Int) := by
    intro d
    induction d with
    | zero =>
      intro n h
      obtain rfl : n = l.length := by omega
      refine Ev_round ?_
      simp only [spec_l03Least.l0]
      refine Ev_neg (by omega) ?_
      rw [List.take_length]
      exact last (mexN l) 0 (by omega)
    | succ d ih =>
      intro n h
      have hn : n < l.length := by omega
      have hx := hr _ (List.getElem_mem hn)
      have ht : l.take (n + 1) = l.take n ++ [l[n]] := by rw [List.take_succ_eq_append_getElem hn]
      refine Ev_round ?_
      simp only [spec_l03Least.l0]
      refine Ev_pos (by omega) (Ev_pos (by omega) ?_)
      rw [rd_nat hn, w64 (by omega) (by omega), w64 (by omega) (by omega), flags_length]
      have nx := ih (n + 1) (by omega)
      rw [ht] at nx
      by_cases c : l[n] < ((l.length + 1 : Nat) : Int)
      · refine Ev_pos c (Ev_pos (by omega) (Ev_pos c ?_))
        rw [flags_set _ _ _ (by omega), Int.toNat_of_nonneg hx.1]
        exact nx
      · refine Ev_neg c ?_
        rw [flags_out _ _ _ (by omega)] at nx
        exact nx
  unfold spec_l03Least.f
  rw [w64 (by omega) (by omega)]
  refine Ev_pos (by omega) (Ev_pos (by omega) ?_)
  have := main l.length 0 (by omega)
  rw [List.take_zero, flags_nil] at this
  exact this

theorem spec_take_ev (t H : Nat) (ht : t ≤ 18446744073709551615) (hH : H ≤ 500) : Ev (fun k => spec_l03Take.f k (t : Int) (H : Int)) (TV t (H + 1)) := by
  have outer : ∀ (d n : Nat), n + d = H + 1 → Ev (fun k => spec_l03Take.l0 k (t : Int) (H : Int) (TV t n) (n : Int)) (TV t (H + 1)) := by
    intro d
    induction d with
    | zero =>
      intro n hn
      obtain rfl : n = H + 1 := by omega
      refine Ev_round ?_
      simp only [spec_l03Take.l0]
      exact Ev_neg (by omega) (Ev.now _)
    | succ d ih =>
      intro n hn
      refine Ev_round ?_
      simp only [spec_l03Take.l0]
      refine Ev_pos (by omega) ?_
      have nx := ih (n + 1) (by omega)
      have inner : ∀ (e m : Nat), m + e = min n 63 → Ev (fun k => spec_l03Take.l1 k (t : Int) (H : Int) (TV t n) (n : Int) (takeTo t (TV t n) n m) ((m + 1 : Nat) : Int)) (TV t (H + 1)) := by
        intro e
        induction e with
        | zero =>
          intro m hm
          obtain rfl : m = min n 63 := by omega
          refine Ev_round ?_
          simp only [spec_l03Take.l1]
          have hl1 := takeTo_len t (TV t n) n (min n 63)
          have hl2 := takeTo_range t n (min n 63) (by omega)
          have fin : ∀ b, b = false → Ev (fun k => spec_l03Take.j2 k (t : Int) (H : Int) (TV t n) (n : Int) (takeTo t (TV t n) n (min n 63)) ((min n 63 + 1 : Nat) : Int) b) (TV t (H + 1)) := by
            intro b hb
            refine Ev_round ?_
            simp only [spec_l03Take.j2]
            refine Ev_neg (by simp [hb]) (Ev.bind (least_ev _ (by omega) (fun x hx => by have := hl2 x hx; omega)) (Ev_pos (by rw [TV_len]; omega) ?_))
            rw [w64 (by omega) (by omega)]
            exact nx
          exact Ev_ite' (fun c => fin _ (by apply decide_eq_false; omega)) (fun c => fin _ rfl)
        | succ e ihe =>
          intro m hm
          refine Ev_round ?_
          simp only [spec_l03Take.l1]
          refine Ev_pos (by omega) (Ev_round ?_)
          simp only [spec_l03Take.j2]
          have e1 : IntKind.u64.wrap ((m + 1 : Nat) : Int) = ((m + 1 : Nat) : Int) := wu64 (by omega) (by omega)
          have e2 : wrap64 (((m + 1 : Nat) : Int) + 1) = ((m + 1 + 1 : Nat) : Int) := by rw [w64 (by omega) (by omega)]; omega
          have e3 : wrap64 ((n : Int) - ((m + 1 : Nat) : Int)) = ((n - (m + 1) : Nat) : Int) := by rw [w64 (by omega) (by omega)]; omega
          rw [e1, e2, e3, bit_u64 t (m + 1) ht (by omega)]
          have nx2 := ihe (m + 1) (by omega)
          rw [takeTo_succ] at nx2
          have hl1 := takeTo_len t (TV t n) n m
          refine Ev_pos (by simp; omega) (Ev_pos (by omega) ?_)
          by_cases c : t.testBit (m + 1) = true
          · rw [if_pos c] at nx2
            exact Ev_pos (by simp [c]) (Ev_pos (by omega) (Ev_pos (by rw [TV_len]; omega) (Ev_pos (by omega) nx2)))
          · rw [if_neg c, List.append_nil] at nx2
            exact Ev_neg (by simp [c]) nx2
      have := inner (min n 63) 0 (by omega)
      rw [takeTo_zero] at this
      exact this
  exact outer (H + 1) 0 (by omega)

theorem index_false_ev (fl : List Bool) (n : Nat) (hn : n < fl.length) (hl : fl.length ≤ 9223372036854775806) (h1 : fl[n] = false) (h2 : ∀ m (hm : m < n), fl[m] = true) :
    Ev (fun k => slices_Index_bool_bool.f k fl false) (n : Int) := by
  have main : ∀ (d m : Nat), m + d = n → Ev (fun k => slices_Index_bool_bool.l0 k fl false fl.length (m : Int)) (n : Int) := by
    intro d
    induction d with
    | zero =>
      intro m hm
      obtain rfl : m = n := by omega
      refine Ev_round ?_
      simp only [slices_Index_bool_bool.l0]
      refine Ev_pos (by omega) (Ev_pos (by omega) (Ev_pos (by omega) (Ev_pos ?_ (Ev.now _))))
      simp [rdOf, List.getD_eq_getElem?_getD, List.getElem?_eq_getElem hn, h1]
    | succ d ih =>
      intro m hm
      refine Ev_round ?_
      simp only [slices_Index_bool_bool.l0]
      refine Ev_pos (by omega) (Ev_pos (by omega) (Ev_pos (by omega) (Ev_neg ?_ ?_)))
      · simp [rdOf, List.getD_eq_getElem?_getD, List.getElem?_eq_getElem (show m < fl.length by omega), h2 m (by omega)]
      · rw [w64 (by omega) (by omega)]
        exact ih (m + 1) (by omega)
  exact main n 0 (by omega)

theorem mex_index (l : List Int) : (mexN l < (flags (l.length + 1) l).length) ∧ (∀ h, (flags (l.length + 1) l)[mexN l]'h = false) ∧ ∀ m (hm : m < mexN l) h, (flags (l.length + 1) l)[m]'h = true := by
  have hm := mexN_is l
  have hle := mexN_le l
  refine ⟨by rw [flags_length]; omega, fun h => ?_, fun m hlt h => ?_⟩
  · rw [flags_get]; simp [hm.1]
  · rw [flags_get]; simp [hm.2 m hlt]
theorem impl_mex_ev (l : List Int) (hl : l.length ≤ 140737488355327) (hr : ∀ x ∈ l, 0 ≤ x ∧ x ≤ 65535) : Ev (fun k => impl_mex.f k l) ((mexN l : Nat) : Int) := by
  have main : ∀ (d n : Nat), n + d = l.length → Ev (fun k => impl_mex.l0 k (flags (l.length + 1) (l.take n)) l l.length (n : Int)) ((mexN l : Nat) : Int) := by
    intro d
    induction d with
    | zero =>
      intro n h
      obtain rfl : n = l.length := by omega
      refine Ev_round ?_
      simp only [impl_mex.l0]
      refine Ev_neg (by omega) (Ev.bind ?_ (Ev.now _))
      rw [List.take_length]
      obtain ⟨a, b, c⟩ := mex_index l
      exact index_false_ev _ _ a (by rw [flags_length]; omega) (b a) (fun m hm => c m hm (by omega))
    | succ d ih =>
      intro n h
      have hn : n < l.length := by omega
      have hx := hr _ (List.getElem_mem hn)
      have ht : l.take (n + 1) = l.take n ++ [l[n]] := by rw [List.take_succ_eq_append_getElem hn]
      refine Ev_round ?_
      simp only [impl_mex.l0]
      refine Ev_pos (by omega) (Ev_pos (by omega) (Ev_pos (by omega) ?_))
      rw [rd_nat hn, w64 (by omega) (by omega), w64 (by omega) (by omega), flags_length]
      have nx := ih (n + 1) (by omega)
      rw [ht] at nx
      by_cases c : l[n] < ((l.length + 1 : Nat) : Int)
      · refine Ev_pos c (Ev_pos (by omega) (Ev_pos c ?_))
        rw [flags_set _ _ _ (by omega), Int.toNat_of_nonneg hx.1]
        exact nx
      · refine Ev_neg c ?_
        rw [flags_out _ _ _ (by omega)] at nx
        exact nx
  unfold impl_mex.f
  rw [w64 (by omega) (by omega)]
  refine Ev_pos (by omega) (Ev_pos (by omega) ?_)
  have := main l.length 0 (by omega)
  rw [List.take_zero, flags_nil] at this
  exact this

theorem may_take (t m : Nat) (ht : t ≤ 18446744073709551615) (hm : m ≤ 63) : impl_mayTake.f (t : Int) (m : Int) = some (t.testBit m) := by
  unfold impl_mayTake.f
  rw [if_pos (by omega), if_pos (by omega), bit_u64 t m ht hm]
  by_cases c : t.testBit m = true <;> simp [c]
theorem impl_take_ev (t H : Nat) (ht : t ≤ 18446744073709551615) (hH : H ≤ 500) : Ev (fun k => impl_takeValues.f k (t : Int) (H : Int)) (TV t (H + 1)) := by
  have outer : ∀ (d n : Nat), n + d = H + 1 → Ev (fun k => impl_takeValues.l0 k (t : Int) (TV t n) ((H + 1 : Nat) : Int) (n : Int)) (TV t (H + 1)) := by
    intro d
    induction d with
    | zero =>
      intro n hn
      obtain rfl : n = H + 1 := by omega
      refine Ev_round ?_
      simp only [impl_takeValues.l0]
      exact Ev_neg (by omega) (Ev.now _)
    | succ d ih =>
      intro n hn
      refine Ev_round ?_
      simp only [impl_takeValues.l0]
      refine Ev_pos (by omega) ?_
      have nx := ih (n + 1) (by omega)
      have hmn : mn (n : Int) 63 = ((min n 63 : Nat) : Int) := by unfold mn; split <;> omega
      have inner : ∀ (e m : Nat), m + e = min n 63 → Ev (fun k => impl_takeValues.l1 k (t : Int) (TV t n) (n : Int) (takeTo t (TV t n) n m) ((m + 1 : Nat) : Int) ((H + 1 : Nat) : Int) (n : Int)) (TV t (H + 1)) := by
        intro e
        induction e with
        | zero =>
          intro m hm
          obtain rfl : m = min n 63 := by omega
          refine Ev_round ?_
          simp only [impl_takeValues.l1]
          have hl1 := takeTo_len t (TV t n) n (min n 63)
          have hl2 := takeTo_range t n (min n 63) (by omega)
          have hml := mexN_le (takeTo t (TV t n) n (min n 63))
          rw [hmn]
          refine Ev_neg (by omega) (Ev.bind (impl_mex_ev _ (by omega) (fun x hx => by have := hl2 x hx; omega)) (Ev_pos (by rw [TV_len]; omega) ?_))
          rw [w64 (by omega) (by omega), wu16 (by omega) (by omega)]
          exact nx
        | succ e ihe =>
          intro m hm
          refine Ev_round ?_
          simp only [impl_takeValues.l1]
          have e2 : wrap64 (((m + 1 : Nat) : Int) + 1) = ((m + 1 + 1 : Nat) : Int) := by rw [w64 (by omega) (by omega)]; omega
          have e3 : wrap64 ((n : Int) - ((m + 1 : Nat) : Int)) = ((n - (m + 1) : Nat) : Int) := by rw [w64 (by omega) (by omega)]; omega
          rw [hmn, e2, e3]
          have nx2 := ihe (m + 1) (by omega)
          rw [takeTo_succ] at nx2
          have hl1 := takeTo_len t (TV t n) n m
          refine Ev_pos (by omega) (Ev_bind1 (may_take t (m + 1) ht (by omega)) ?_)
          by_cases c : t.testBit (m + 1) = true
          · rw [if_pos c] at nx2
            exact Ev_pos c (Ev_pos (by omega) (Ev_pos (by rw [TV_len]; omega) (Ev_pos (by omega) nx2)))
          · rw [if_neg c, List.append_nil] at nx2
            exact Ev_neg c nx2
      have := inner (min n 63) 0 (by omega)
      rw [takeTo_zero] at this
      exact this
  have := outer (H + 1) 0 (by omega)
  unfold impl_takeValues.f
  rw [w64 (by omega) (by omega)]
  exact this

theorem eqNimberS_ev (xs ys : List Int) (hn : xs.length ≤ 140737488355328) : Ev (fun k => laws_eqNimberS.f k xs ys) (decide (xs = ys)) :=
  eq_all (L := laws_eqNimberS.l0) (fun _ _ _ _ => rfl) xs ys (by omega)

theorem markNimberS_ev (xs : List Int) (hn : xs.length ≤ 140737488355328) : Ev (fun k => laws_markNimberS.f k xs 1) (1 + (xs.length : Int), markG .u16 1 xs.length) :=
  mark_loop (L := laws_markNimberS.l0) (fun _ _ _ _ => rfl) 1 xs.length (by omega) (by omega) xs.length 0 xs (by omega) rfl (by simp)

theorem heldNimberS_ev (N : Nat) (hn : N ≤ 140737488355328) : Ev (fun k => laws_heldNimberS.f k (markG .u16 1 N) 1) (1 + (N : Int)) :=
  held_loop (L := laws_heldNimberS.l0) (fun _ _ _ _ => rfl) 1 N (by omega) (by omega) N 0 (by omega)

def takeR (t h : Int) : List Int × Int := if t % 2 = 1 then ([], 2) else if 0 ≤ h ∧ h ≤ 500 then (TV t.toNat (h.toNat + 1), 0) else ([], 2)
theorem spec_takeR (t h : Int) (h0 : 0 ≤ t) (h1 : t ≤ 18446744073709551615) : Ev (fun k => spec_TakeValues.f k t h) (takeR t h) := by
  unfold spec_TakeValues.f takeR spec_l03Heap.f spec_l00In.f
  rw [and1_u64 h0 h1]
  by_cases c : t % 2 = 1
  · rw [if_pos c]; exact Ev_pos c (Ev.now _)
  · rw [if_neg c]
    refine Ev_neg c ?_
    by_cases c0 : h ≥ 0
    · by_cases c1 : h ≤ 500
      · refine Ev_as ?_ (if_pos ⟨c0, c1⟩).symm
        obtain ⟨T, rfl⟩ := Int.eq_ofNat_of_zero_le h0
        obtain ⟨H, rfl⟩ := Int.eq_ofNat_of_zero_le c0
        refine Ev_bind1 (a := true) (by rw [if_pos c0]; simp [c1]) (Ev_pos rfl (Ev.bind (spec_take_ev T H (by omega) (by omega)) (Ev.now _)))
      · refine Ev_as ?_ (if_neg (by omega)).symm
        exact Ev_bind1 (a := false) (by rw [if_pos c0]; simp [c1]) (Ev_neg (by simp) (Ev.now _))
    · refine Ev_as ?_ (if_neg (by omega)).symm
      exact Ev_bind1 (a := false) (by rw [if_neg c0]; simp) (Ev_neg (by simp) (Ev.now _))
theorem impl_takeR (t h : Int) (h0 : 0 ≤ t) (h1 : t ≤ 18446744073709551615) : Ev (fun k => impl_TakeValues.f k t h) (takeR t h) := by
  unfold impl_TakeValues.f takeR impl_within.f
  rw [and1_u64 h0 h1]
  by_cases c : t % 2 = 1
  · rw [if_pos c]; exact Ev_pos c (Ev.now _)
  · rw [if_neg c]
    refine Ev_neg c ?_
    by_cases c0 : 0 ≤ h
    · by_cases c1 : h ≤ 500
      · refine Ev_as ?_ (if_pos ⟨c0, c1⟩).symm
        obtain ⟨T, rfl⟩ := Int.eq_ofNat_of_zero_le h0
        obtain ⟨H, rfl⟩ := Int.eq_ofNat_of_zero_le c0
        refine Ev_bind1 (a := true) (by rw [if_pos c0]; simp [c1]) (Ev_pos rfl (Ev.bind (impl_take_ev T H (by omega) (by omega)) (Ev.now _)))
      · refine Ev_as ?_ (if_neg (by omega)).symm
        exact Ev_bind1 (a := false) (by rw [if_pos c0]; simp [c1]) (Ev_neg (by simp) (Ev.now _))
    · refine Ev_as ?_ (if_neg (by omega)).symm
      exact Ev_bind1 (a := false) (by rw [if_neg c0]) (Ev_neg (by simp) (Ev.now _))
theorem takeR_len (t h : Int) : (takeR t h).1.length ≤ 501 := by
  unfold takeR
  split
  · simp
  · split
    · rw [TV_len]; omega
    · simp
theorem FnExactTakeValues : laws_FnExactTakeValues.Pure := by
  intro t h wt wh
  obtain ⟨h0, h1⟩ := wf_u64 wt
  refine Ev.rounds (r := true) ?_
  have hs := spec_takeR t h h0 h1
  have hi := impl_takeR t h h0 h1
  have hl := takeR_len t h
  generalize takeR t h = R at *
  obtain ⟨L, c⟩ := R
  simp only at hl
  refine Ev.bind hs (Ev.bind hi (Ev.bind (eqNimberS_ev L L (by omega)) (Ev_pos (by simp) (Ev_round (Ev_neg (by simp) ?_)))))
  refine Ev.bind (markNimberS_ev L (by omega)) ?_
  refine Ev.bind (heldNimberS_ev L.length (by omega)) (Ev_neg (by omega) (Ev_pos rfl ?_))
  refine Ev.bind hi (Ev.bind (eqNimberS_ev L L (by omega)) (Ev_pos (by simp) (Ev_round (Ev_neg (by simp) ?_))))
  exact Ev.bind (heldNimberS_ev L.length (by omega)) (Ev_neg (by omega) (Ev_pos rfl (Ev.now _)))

end Go.Proofs.Ytbhjkaiiebpopaa.Pure
