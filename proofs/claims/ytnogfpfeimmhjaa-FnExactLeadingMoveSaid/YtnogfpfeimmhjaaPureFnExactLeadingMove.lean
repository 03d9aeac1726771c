/- FnExactLeadingMove: the printed pure statement holds: at every input the law's function answers true; no condition but the bounds of its kinds. -/
import Derived.Test.YtnogfpfeimmhjaaPFnExactLeadingMovex2
import Derived.Test.YtnogfpfeimmhjaaLib
set_option linter.unusedVariables false
set_option linter.unusedSimpArgs false
namespace Go.Proofs.Ytnogfpfeimmhjaa.Pure
open Go.RowKit Go.Proofs.Ytnogfpfeimmhjaa.PFnExactLeadingMove Go.Proofs.YtnogfpfeimmhjaaW.PrintWords Go.Proofs.YtnogfpfeimmhjaaW.PrintLast Go.Proofs.Ytnogfpfeimmhjaa.Lib

theorem toNimberS_ev (xs : List Int) (hn : xs.length ≤ 1048576) : Ev (fun k => laws_toNimberS.f k xs) xs :=
  copy_all (L := laws_toNimberS.l0) (fun _ _ _ _ => rfl) xs (by omega)

theorem eqNimberS_ev (xs ys : List Int) (hn : xs.length ≤ 140737488355328) : Ev (fun k => laws_eqNimberS.f k xs ys) (decide (xs = ys)) :=
  eq_all (L := laws_eqNimberS.l0) (fun _ _ _ _ => rfl) xs ys (by omega)

theorem spec_sum_ev (xs : List Int) (hn : xs.length ≤ 140737488355328) : Ev (fun k => spec_l01Sum.f k xs) (xs.foldl X 0) :=
  fold_loop (L := fun k s i => spec_l01Sum.l0 k xs s i) (f := X) (fin := id) xs (fun _ _ => True)
    (fun k s n h _ => by simp only [spec_l01Sum.l0]; rw [if_pos (by omega), if_pos (by omega), w64 (by omega) (by omega), rd_nat h]; rfl)
    (fun _ _ _ _ => trivial)
    (fun k s _ => by simp only [spec_l01Sum.l0]; rw [if_neg (by omega)]; rfl) xs.length 0 0 (by omega) trivial

def leadG (s : Int) (n : Nat) (x : Int) : Option (Int × Int × Int) := if X x s < x then some ((n : Int), X x s, 0) else none
theorem spec_lead_ev (xs : List Int) (hn : xs.length ≤ 140737488355328) : Ev (fun k => spec_LeadingMove.f k xs) (findR (leadG (xs.foldl X 0)) (0, 0, 6) xs 0) := by
  refine Ev.bind (spec_sum_ev xs hn) ?_
  exact find_loop (L := fun k i => spec_LeadingMove.l0 k xs (xs.foldl X 0) i) xs (leadG (xs.foldl X 0)) (0, 0, 6)
    (fun k n h => by
      simp only [spec_LeadingMove.l0, leadG]
      rw [if_pos (by omega), if_pos (by omega), w64 (by omega) (by omega), rd_nat h]
      unfold X
      split <;> rfl)
    (fun k => by simp only [spec_LeadingMove.l0]; rw [if_neg (by omega)]) xs.length 0 (by omega)

theorem impl_sum_ev (xs : List Int) (hn : xs.length ≤ 140737488355328) : Ev (fun k => impl_sum.f k xs) (xs.foldl X 0) :=
  fold_loop (L := fun k s i => impl_sum.l0 k s xs xs.length i) (f := X) (fin := id) xs (fun _ _ => True)
    (fun k s n h _ => by simp only [impl_sum.l0]; rw [if_pos (by omega), if_pos (by omega), if_pos (by omega), w64 (by omega) (by omega), rd_nat h]; rfl)
    (fun _ _ _ _ => trivial)
    (fun k s _ => by simp only [impl_sum.l0]; rw [if_neg (by omega)]; rfl) xs.length 0 0 (by omega) trivial

theorem impl_lead_ev (xs : List Int) (hn : xs.length ≤ 140737488355328) : Ev (fun k => impl_LeadingMove.f k xs) (findR (leadG (xs.foldl X 0)) (0, 0, 6) xs 0) := by
  refine Ev.bind (impl_sum_ev xs hn) ?_
  exact find_loop (L := fun k i => impl_LeadingMove.l0 k (xs.foldl X 0) xs xs.length i) xs (leadG (xs.foldl X 0)) (0, 0, 6)
    (fun k n h => by
      simp only [impl_LeadingMove.l0, leadG]
      rw [if_pos (by omega), if_pos (by omega), if_pos (by omega), w64 (by omega) (by omega), rd_nat h]
      unfold X
      split <;> rfl)
    (fun k => by simp only [impl_LeadingMove.l0]; rw [if_neg (by omega)]) xs.length 0 (by omega)

theorem FnExactLeadingMove : laws_FnExactLeadingMove.Pure := by
  intro l _ _ _
  by_cases hb : (l.length : Int) > 1048576
  · exact ⟨0, if_pos hb⟩
  · refine Ev.rounds (r := true) (Ev_neg hb ?_)
    refine Ev.bind (toNimberS_ev l (by omega)) ?_
    refine Ev.bind (spec_lead_ev l (by omega)) ?_
    refine Ev.bind (toNimberS_ev l (by omega)) ?_
    refine Ev.bind (impl_lead_ev l (by omega)) ?_
    refine Ev_pos rfl (Ev_pos rfl ?_)
    refine Ev_round (Ev_neg (by simp) ?_)
    refine Ev.bind (toNimberS_ev l (by omega)) ?_
    refine Ev.bind (eqNimberS_ev l l (by omega)) ?_
    exact Ev_pos (by simp) (Ev.now _)

end Go.Proofs.Ytnogfpfeimmhjaa.Pure
