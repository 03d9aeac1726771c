/- FnExactRepeatsFrom: the printed pure statement holds: at every input the law's function answers true; no condition but the bounds of its kinds. -/
import Derived.Test.YtnogfpfeimmhjaaQFnExactRepeatsFromx2
import Derived.Test.YtnogfpfeimmhjaaLib
set_option linter.unusedVariables false
set_option linter.unusedSimpArgs false
namespace Go.Proofs.Ytnogfpfeimmhjaa.Pure
open Go.RowKit Go.Proofs.Ytnogfpfeimmhjaa.QFnExactRepeatsFrom Go.Proofs.YtnogfpfeimmhjaaW.PrintWords Go.Proofs.YtnogfpfeimmhjaaW.PrintLast Go.Proofs.Ytnogfpfeimmhjaa.Lib

theorem toNimberS_ev (xs : List Int) (hn : xs.length ≤ 1048576) : Ev (fun k => laws_toNimberS.f k xs) xs :=
  copy_all (L := laws_toNimberS.l0) (fun _ _ _ _ => rfl) xs (by omega)

theorem eqNimberS_ev (xs ys : List Int) (hn : xs.length ≤ 140737488355328) : Ev (fun k => laws_eqNimberS.f k xs ys) (decide (xs = ys)) :=
  eq_all (L := laws_eqNimberS.l0) (fun _ _ _ _ => rfl) xs ys (by omega)

def repR (xs : List Int) (a p : Int) : Bool × Int :=
  if 0 ≤ a ∧ 1 ≤ p ∧ a ≤ xs.length ∧ p ≤ xs.length - a then (decide ((xs.take ((xs.length : Int) - p).toNat).drop a.toNat = xs.drop (a + p).toNat), 0) else (false, 2)
theorem spec_repeats_ev (xs : List Int) (a p : Int) (hn : xs.length ≤ 140737488355328) (ha : -9223372036854775808 ≤ a ∧ a ≤ 9223372036854775807) (hp : -9223372036854775808 ≤ p ∧ p ≤ 9223372036854775807) :
    Ev (fun k => spec_RepeatsFrom.f k xs a p) (repR xs a p) := by
  unfold repR
  by_cases h : 0 ≤ a ∧ 1 ≤ p ∧ a ≤ xs.length ∧ p ≤ xs.length - a
  · rw [if_pos h]
    obtain ⟨h1, h2, h3, h4⟩ := h
    refine Ev_neg (by omega) (Ev_neg (by omega) (Ev_neg (by omega) ?_))
    rw [w64 (by omega) (by omega)]
    refine Ev_round ?_
    simp only [spec_RepeatsFrom.j0]
    refine Ev_neg (by simp; omega) ?_
    have hl : ((xs.take ((xs.length : Int) - p).toNat).drop a.toNat).length = (xs.drop (a + p).toNat).length := by simp; omega
    have hlen : ((xs.take ((xs.length : Int) - p).toNat).drop a.toNat).length = ((xs.length : Int) - p - a).toNat := by simp; omega
    have g := eq_gen (L := fun k i => spec_RepeatsFrom.l0 k xs p xs.length i) (fun b => (b, (0 : Int))) a _ _ hl
      (fun k n hh => by
        simp only [spec_RepeatsFrom.l0]
        rw [hlen] at hh
        have e1 : wrap64 (a + (n : Int) + p) = a + n + p := w64 (by omega) (by omega)
        rw [e1, w64 (by omega) (by omega), if_pos (by omega), if_pos (by omega), if_pos (by omega), if_pos (by omega), if_pos (by omega), rd_int (by omega) (by omega), rd_int (by omega) (by omega)]
        have e2 : (a + (n : Int)).toNat = a.toNat + n := by omega
        have e3 : (a + (n : Int) + p).toNat = (a + p).toNat + n := by omega
        simp only [e2, e3, List.getElem_drop, List.getElem_take]
        have e4 : a + (n : Int) + 1 = a + ((n + 1 : Nat) : Int) := by omega
        rw [e4])
      (fun k => by
        simp only [spec_RepeatsFrom.l0]
        rw [hlen, if_neg]
        rw [w64 (by omega) (by omega)]
        omega)
      _ 0 (Nat.zero_add _) (by simp)
    simpa using g
  · rw [if_neg h]
    refine Ev_ite' (fun c => Ev_round (by simp only [spec_RepeatsFrom.j0]; exact Ev_pos (by simp) (Ev.now _))) (fun c => ?_)
    refine Ev_ite' (fun c => Ev_round (by simp only [spec_RepeatsFrom.j0]; exact Ev_pos (by simp) (Ev.now _))) (fun c => ?_)
    refine Ev_ite' (fun c => Ev_round (by simp only [spec_RepeatsFrom.j0]; exact Ev_pos (by simp) (Ev.now _))) (fun c => ?_)
    rw [w64 (by omega) (by omega)]
    exact Ev_round (by simp only [spec_RepeatsFrom.j0]; exact Ev_pos (by simp; omega) (Ev.now _))

theorem impl_equal_ev (xs ys : List Int) (hn : xs.length ≤ 140737488355328) : Ev (fun k => impl_Nimber.f k xs ys) (decide (xs = ys)) := by
  by_cases h : xs.length = ys.length
  · refine Ev_pos (by omega) ?_
    have g := eq_gen (L := fun k i => impl_Nimber.l0 k xs ys xs.length i) (fun b => b) 0 xs ys h
      (fun k n hh => by
        simp only [impl_Nimber.l0, Int.zero_add]
        rw [if_pos (by omega), if_pos (by omega), if_pos (by omega), if_pos (by omega), w64 (by omega) (by omega), rd_nat (by omega), rd_nat (by omega)]
        rfl)
      (fun k => by simp only [impl_Nimber.l0, Int.zero_add]; rw [if_neg (by omega)])
      _ 0 (Nat.zero_add _) (by simp)
    simpa using g
  · refine Ev_neg (by omega) (Ev_as (Ev.now _) ?_)
    have : xs ≠ ys := fun e => h (by rw [e])
    simp [this]

theorem impl_repeats_ev (xs : List Int) (a p : Int) (hn : xs.length ≤ 140737488355328) (ha : -9223372036854775808 ≤ a ∧ a ≤ 9223372036854775807) (hp : -9223372036854775808 ≤ p ∧ p ≤ 9223372036854775807) :
    Ev (fun k => impl_RepeatsFrom.f k xs a p) (repR xs a p) := by
  unfold repR impl_RepeatsFrom.f impl_within.f
  by_cases h : 0 ≤ a ∧ 1 ≤ p ∧ a ≤ xs.length ∧ p ≤ xs.length - a
  · rw [if_pos h]
    obtain ⟨h1, h2, h3, h4⟩ := h
    refine Ev_bind1 (if_pos h1) (Ev_pos (by simp; omega) (Ev_neg (by omega) ?_))
    have e1 : wrap64 ((xs.length : Int) - a) = xs.length - a := w64 (by omega) (by omega)
    have e2 : wrap64 ((xs.length : Int) - p) = xs.length - p := w64 (by omega) (by omega)
    have e3 : wrap64 (a + p) = a + p := w64 (by omega) (by omega)
    rw [e1, e2, e3]
    refine Ev_neg (by omega) (Ev_pos (by omega) (Ev_pos (by omega) (Ev_pos (by omega) (Ev_pos (by omega) (Ev_pos (by omega) ?_)))))
    refine Ev.bind (impl_equal_ev _ _ (by simp; omega)) (Ev.now _)
  · rw [if_neg h]
    by_cases c : 0 ≤ a
    · refine Ev_bind1 (if_pos c) ?_
      by_cases c2 : a ≤ (xs.length : Int)
      · refine Ev_pos (by simpa using c2) (Ev_ite' (fun _ => Ev.now _) (fun c3 => Ev_pos ?_ (Ev.now _)))
        rw [w64 (by omega) (by omega)]
        omega
      · exact Ev_neg (by simpa using c2) (Ev.now _)
    · exact Ev_bind1 (if_neg c) (Ev_neg (by simp) (Ev.now _))

theorem FnExactRepeatsFrom : laws_FnExactRepeatsFrom.Pure := by
  intro l a p _ _ _ wa wp
  have ha := wf_i64 wa
  have hp := wf_i64 wp
  by_cases hb : (l.length : Int) > 1048576
  · exact ⟨0, if_pos hb⟩
  · refine Ev.rounds (r := true) (Ev_neg hb ?_)
    refine Ev.bind (toNimberS_ev l (by omega)) ?_
    refine Ev.bind (spec_repeats_ev l a p (by omega) ha hp) ?_
    refine Ev.bind (toNimberS_ev l (by omega)) ?_
    refine Ev.bind (impl_repeats_ev l a p (by omega) ha hp) ?_
    refine Ev_neg (by simp) ?_
    refine Ev_round (Ev_neg (by simp) ?_)
    refine Ev.bind (toNimberS_ev l (by omega)) ?_
    refine Ev.bind (eqNimberS_ev l l (by omega)) ?_
    exact Ev_pos (by simp) (Ev.now _)

end Go.Proofs.Ytnogfpfeimmhjaa.Pure
