/- FnExactExcludedBy: the printed pure statement holds: at every input the law's function answers true; no condition but the bounds of its kinds. -/
import Derived.Test.YtjffoemohcebjaaQFnExactExcludedByx2
import Derived.Test.YtjffoemohcebjaaLib
import Derived.Test.YtjffoemohcebjaaLib3
set_option linter.unusedVariables false
set_option linter.unusedSimpArgs false
namespace Go.Proofs.Ytjffoemohcebjaa.Pure
open Go.RowKit Go.Proofs.Ytjffoemohcebjaa.QFnExactExcludedBy Go.Proofs.YtjffoemohcebjaaW.PrintWords Go.Proofs.YtjffoemohcebjaaW.PrintLast Go.Proofs.Ytjffoemohcebjaa.Lib

theorem toNimberS_ev (xs : List Int) (hn : xs.length ≤ 1048576) : Ev (fun k => laws_toNimberS.f k xs) xs :=
  copy_all (L := laws_toNimberS.l0) (fun _ _ _ _ => rfl) xs (by omega)

theorem index_false_ev (fl : List Bool) (n : Nat) (hn : n < fl.length) (hl : fl.length ≤ 9223372036854775806) (h1 : fl[n] = false) (h2 : ∀ m (hm : m < n), fl[m] = true) :
    Ev (fun k => slices_Index_bool_bool.f k fl false) (n : Int) := by
  have main : ∀ (d m : Nat), m + d = n → Ev (fun k => slices_Index_bool_bool.l0 k fl false fl.length (m : Int)) (n : Int) := by
    intro d
    induction d with
    | zero =>
      intro m hm
      obtain rfl : m = n := by omega
      refine Ev_round ?_
      simp only [slices_Index_bool_bool.l0]
      refine Ev_pos (by omega) (Ev_pos (by omega) (Ev_pos (by omega) (Ev_pos ?_ (Ev.now _))))
      simp [rdOf, List.getD_eq_getElem?_getD, List.getElem?_eq_getElem hn, h1]
    | succ d ih =>
      intro m hm
      refine Ev_round ?_
      simp only [slices_Index_bool_bool.l0]
      refine Ev_pos (by omega) (Ev_pos (by omega) (Ev_pos (by omega) (Ev_neg ?_ ?_)))
      · simp [rdOf, List.getD_eq_getElem?_getD, List.getElem?_eq_getElem (show m < fl.length by omega), h2 m (by omega)]
      · rw [w64 (by omega) (by omega)]
        exact ih (m + 1) (by omega)
  exact main n 0 (by omega)

theorem mex_index (l : List Int) : (mexN l < (flags (l.length + 1) l).length) ∧ (∀ h, (flags (l.length + 1) l)[mexN l]'h = false) ∧ ∀ m (hm : m < mexN l) h, (flags (l.length + 1) l)[m]'h = true := by
  have hm := mexN_is l
  have hle := mexN_le l
  refine ⟨by rw [flags_length]; omega, fun h => ?_, fun m hlt h => ?_⟩
  · rw [flags_get]; simp [hm.1]
  · rw [flags_get]; simp [hm.2 m hlt]
theorem impl_mex_ev (l : List Int) (hl : l.length ≤ 140737488355327) (hr : ∀ x ∈ l, 0 ≤ x ∧ x ≤ 65535) : Ev (fun k => impl_mex.f k l) ((mexN l : Nat) : Int) := by
  have main : ∀ (d n : Nat), n + d = l.length → Ev (fun k => impl_mex.l0 k (flags (l.length + 1) (l.take n)) l l.length (n : Int)) ((mexN l : Nat) : Int) := by
    intro d
    induction d with
    | zero =>
      intro n h
      obtain rfl : n = l.length := by omega
      refine Ev_round ?_
      simp only [impl_mex.l0]
      refine Ev_neg (by omega) (Ev.bind ?_ (Ev.now _))
      rw [List.take_length]
      obtain ⟨a, b, c⟩ := mex_index l
      exact index_false_ev _ _ a (by rw [flags_length]; omega) (b a) (fun m hm => c m hm (by omega))
    | succ d ih =>
      intro n h
      have hn : n < l.length := by omega
      have hx := hr _ (List.getElem_mem hn)
      have ht : l.take (n + 1) = l.take n ++ [l[n]] := by rw [List.take_succ_eq_append_getElem hn]
      refine Ev_round ?_
      simp only [impl_mex.l0]
      refine Ev_pos (by omega) (Ev_pos (by omega) (Ev_pos (by omega) ?_))
      rw [rd_nat hn, w64 (by omega) (by omega), w64 (by omega) (by omega), flags_length]
      have nx := ih (n + 1) (by omega)
      rw [ht] at nx
      by_cases c : l[n] < ((l.length + 1 : Nat) : Int)
      · refine Ev_pos c (Ev_pos (by omega) (Ev_pos c ?_))
        rw [flags_set _ _ _ (by omega), Int.toNat_of_nonneg hx.1]
        exact nx
      · refine Ev_neg c ?_
        rw [flags_out _ _ _ (by omega)] at nx
        exact nx
  unfold impl_mex.f
  rw [w64 (by omega) (by omega)]
  refine Ev_pos (by omega) (Ev_pos (by omega) ?_)
  have := main l.length 0 (by omega)
  rw [List.take_zero, flags_nil] at this
  exact this

theorem eqNimberS_ev (xs ys : List Int) (hn : xs.length ≤ 140737488355328) : Ev (fun k => laws_eqNimberS.f k xs ys) (decide (xs = ys)) :=
  eq_all (L := laws_eqNimberS.l0) (fun _ _ _ _ => rfl) xs ys (by omega)

theorem mx_mexN (l : List Int) (hl : l.length ≤ 1000) : mxFrom l 65537 0 = mexN l :=
  mxFrom_eq l 65537 0 (mexN l) (Nat.zero_le _) (fun j _ hj => (mexN_is l).2 j hj) (mexN_is l).1 (by have := mexN_le l; omega)
theorem FnExactExcludedBy : laws_FnExactExcludedBy.Pure := by
  intro l hl _ hw
  have hr : ∀ x ∈ l, 0 ≤ x ∧ x ≤ 65535 := fun x hx => wf_u16 (hw x hx)
  by_cases hb : (l.length : Int) > 1048576
  · exact ⟨0, if_pos hb⟩
  · refine Ev.rounds (r := true) (Ev_neg hb ?_)
    refine Ev.bind (toNimberS_ev l (by omega)) ?_
    by_cases h1 : (l.length : Int) > 1000
    · refine Ev_bind1 (a := ((0 : Int), (3 : Int))) (if_pos h1) ?_
      refine Ev.bind (toNimberS_ev l (by omega)) ?_
      refine Ev.bind (Ev_pos h1 (Ev.now _)) ?_
      refine Ev_pos rfl (Ev_round ?_)
      simp only [laws_FnExactExcludedBy.j0]
      refine Ev_neg (by simp) ?_
      refine Ev.bind (toNimberS_ev l (by omega)) ?_
      refine Ev.bind (eqNimberS_ev l l (by omega)) ?_
      exact Ev_pos (by simp) (Ev.now _)
    · have hs : spec_ExcludedBy.f l = some (((mexN l : Nat) : Int), 0) := by
        unfold spec_ExcludedBy.f spec_l01Excluded.f
        rw [if_neg h1, if_pos (by
          rw [List.all_eq_true]
          intro x hx
          have := hr x hx
          simp only [Bool.and_eq_true, decide_eq_true_eq]
          exact this), mx_mexN l (by omega)]
        rfl
      refine Ev_bind1 hs ?_
      refine Ev.bind (toNimberS_ev l (by omega)) ?_
      refine Ev.bind (Ev_neg h1 (Ev.bind (impl_mex_ev l (by omega) hr) (Ev.now _))) ?_
      refine Ev_pos rfl (Ev_round ?_)
      simp only [laws_FnExactExcludedBy.j0]
      refine Ev_neg (by simp) ?_
      refine Ev.bind (toNimberS_ev l (by omega)) ?_
      refine Ev.bind (eqNimberS_ev l l (by omega)) ?_
      exact Ev_pos (by simp) (Ev.now _)

end Go.Proofs.Ytjffoemohcebjaa.Pure
