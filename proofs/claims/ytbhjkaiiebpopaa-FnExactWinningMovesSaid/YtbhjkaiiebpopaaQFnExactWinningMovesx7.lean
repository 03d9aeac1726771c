/- Written by the session's own program (wip/myprint.py), for the law FnExactWinningMoves: each function as a plain Lean function, and its contract. -/
import Derived.Test.YtbhjkaiiebpopaaQFnExactWinningMovesx0
namespace Go.Proofs.Ytbhjkaiiebpopaa.QFnExactWinningMoves
open Go.RowKit Go.Proofs.YtbhjkaiiebpopaaW.PrintWords Go.Proofs.YtbhjkaiiebpopaaW.PrintLast Go.Proofs.YtbhjkaiiebpopaaW.PrintMore
attribute [local go_sem] max2_int min2_int max_two min_two max_three min_three max_four min_four   -- for this text's walks alone
set_option linter.unusedVariables false
set_option linter.unusedSimpArgs false

/-! ### laws_heldInt64A2S: function 53 -/
/-- A row that holds its marks is told so (of others nothing is told). -/
def laws_heldInt64A2S.f (l0 : List S88) (a1 : Int) : Option (Int × List S88) := if l0.map (fun x => (x.f0, x.f1)) = Go.Proofs.Ytbhjkaiiebpopaa.Pairs.marks l0.length a1 then (if (l0.length : Int) ≤ 1099511627776 then (if 0 ≤ a1 then (if a1 ≤ 1099511627776 then some (a1 + (l0.length : Int) * 2, l0) else none) else none) else none) else none
theorem laws_heldInt64A2S.calls (P0_ : Nat → Prop) (u9000_ : Value) (l0 : List S88) (a1 : Int) (r1 : Int) (r2 : List S88) (w0 w : World) (hB : Below w0.heap.size w0 w) (ho0 : Kd.R k88 88 w w0.heap.size P0_ u9000_ l0) (h : laws_heldInt64A2S.f l0 a1 = some (r1, r2)) :
    Calls Try.prog 53 #[u9000_, .int .i64 a1] w fun e w' => e = .returned (.int .i64 r1) ∧ Kd.R k88 88 w' w0.heap.size (fun k_ => (P0_ k_ ∨ w.heap.size ≤ k_)) u9000_ r2 ∧ Below w0.heap.size w0 w' ∧ Kept w w' (fun k_ => P0_ k_) := by
  unfold laws_heldInt64A2S.f at h
  by_cases hm : l0.map (fun x => (x.f0, x.f1)) = Go.Proofs.Ytbhjkaiiebpopaa.Pairs.marks l0.length a1
  · by_cases h0 : (l0.length : Int) ≤ 1099511627776
    · by_cases h1 : 0 ≤ a1
      · by_cases h2 : a1 ≤ 1099511627776
        · rw [if_pos hm, if_pos h0, if_pos h1, if_pos h2] at h
          injection h with h
          injection h with e1 e2
          subst e1 e2
          have hR := (Go.Proofs.Ytbhjkaiiebpopaa.Pairs.R_iso (fun x : S88 => (x.f0, x.f1))).1 ho0
          rw [hm] at hR
          refine (Go.Proofs.Ytbhjkaiiebpopaa.Pairs.held_R l0.length h0 a1 ⟨h1, h2⟩ w0 w P0_ u9000_ hR hB).mono ?_
          rintro e w' ⟨rfl, hr, hb, hk⟩
          exact ⟨rfl, (Go.Proofs.Ytbhjkaiiebpopaa.Pairs.R_iso (fun x : S88 => (x.f0, x.f1))).2 (by rw [hm]; exact hr), hb, hk⟩
        · rw [if_pos hm, if_pos h0, if_pos h1, if_neg h2] at h
          exact absurd h (by simp)
      · rw [if_pos hm, if_pos h0, if_neg h1] at h
        exact absurd h (by simp)
    · rw [if_pos hm, if_neg h0] at h
      exact absurd h (by simp)
  · rw [if_neg hm] at h
    exact absurd h (by simp)

-- NOT PRINTED: function 14 (laws_FnExactWinningMoves)

end Go.Proofs.Ytbhjkaiiebpopaa.QFnExactWinningMoves
