/- FnExactSumOf: the printed pure statement holds: at every input the law's function answers true; no condition but the bounds of its kinds. -/
import Derived.Test.YtnogfpfeimmhjaaPFnExactSumOfx1
import Derived.Test.YtnogfpfeimmhjaaLib
set_option linter.unusedVariables false
set_option linter.unusedSimpArgs false
namespace Go.Proofs.Ytnogfpfeimmhjaa.Pure
open Go.RowKit Go.Proofs.Ytnogfpfeimmhjaa.PFnExactSumOf Go.Proofs.YtnogfpfeimmhjaaW.PrintWords Go.Proofs.YtnogfpfeimmhjaaW.PrintLast Go.Proofs.Ytnogfpfeimmhjaa.Lib

theorem spec_sum_ev (xs : List Int) (hn : xs.length ≤ 140737488355328) : Ev (fun k => spec_l01Sum.f k xs) (xs.foldl X 0) :=
  fold_loop (L := fun k s i => spec_l01Sum.l0 k xs s i) (f := X) (fin := id) xs (fun _ _ => True)
    (fun k s n h _ => by simp only [spec_l01Sum.l0]; rw [if_pos (by omega), if_pos (by omega), w64 (by omega) (by omega), rd_nat h]; rfl)
    (fun _ _ _ _ => trivial)
    (fun k s _ => by simp only [spec_l01Sum.l0]; rw [if_neg (by omega)]; rfl) xs.length 0 0 (by omega) trivial

theorem toNimberS_ev (xs : List Int) (hn : xs.length ≤ 1048576) : Ev (fun k => laws_toNimberS.f k xs) xs :=
  copy_all (L := laws_toNimberS.l0) (fun _ _ _ _ => rfl) xs (by omega)

theorem impl_sum_ev (xs : List Int) (hn : xs.length ≤ 140737488355328) : Ev (fun k => impl_sum.f k xs) (xs.foldl X 0) :=
  fold_loop (L := fun k s i => impl_sum.l0 k s xs xs.length i) (f := X) (fin := id) xs (fun _ _ => True)
    (fun k s n h _ => by simp only [impl_sum.l0]; rw [if_pos (by omega), if_pos (by omega), if_pos (by omega), w64 (by omega) (by omega), rd_nat h]; rfl)
    (fun _ _ _ _ => trivial)
    (fun k s _ => by simp only [impl_sum.l0]; rw [if_neg (by omega)]; rfl) xs.length 0 0 (by omega) trivial

theorem eqNimberS_ev (xs ys : List Int) (hn : xs.length ≤ 140737488355328) : Ev (fun k => laws_eqNimberS.f k xs ys) (decide (xs = ys)) :=
  eq_all (L := laws_eqNimberS.l0) (fun _ _ _ _ => rfl) xs ys (by omega)

theorem FnExactSumOf : laws_FnExactSumOf.Pure := by
  intro l _ _ _
  by_cases hb : (l.length : Int) > 1048576
  · exact ⟨0, if_pos hb⟩
  · refine Ev.rounds (r := true) (Ev_neg hb ?_)
    refine Ev.bind (toNimberS_ev l (by omega)) ?_
    refine Ev.bind (Ev.bind (spec_sum_ev l (by omega)) (Ev.now _)) ?_
    refine Ev.bind (toNimberS_ev l (by omega)) ?_
    refine Ev.bind (Ev.bind (impl_sum_ev l (by omega)) (Ev.now _)) ?_
    refine Ev_pos rfl ?_
    refine Ev.bind (toNimberS_ev l (by omega)) ?_
    refine Ev.bind (eqNimberS_ev l l (by omega)) ?_
    exact Ev_pos (by simp) (Ev.now _)

end Go.Proofs.Ytnogfpfeimmhjaa.Pure
