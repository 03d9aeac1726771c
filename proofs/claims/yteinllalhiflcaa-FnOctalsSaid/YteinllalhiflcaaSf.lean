/- The comparison that octalMoves hands to slices.SortFunc: pairs by their first, then by their second number. -/
import Derived.Test.YteinllalhiflcaaProg
import Derived.Test.YteinllalhiflcaaWWords
import Derived.Sort.Grow
import Derived.Laws.Alloc2
import Derived.Laws.NewBlocks
import Derived.Deep.QuietTactic
namespace Go.Proofs.Yteinllalhiflcaa.Sf
open Go.RowKit Go.Proofs.YteinllalhiflcaaW.PrintWords Go.Sort
/-- -1, 0 or 1, as x is less than y, equal, or greater. -/
def cmpZ (x y : Int) : Int := if x < y then -1 else if y < x then 1 else 0
theorem nan (x : Int) (w : World) : Calls Try.prog 128 #[.int .i64 x] w fun e w' => e = .returned (.bool false) ∧ w' = w := by
  go_enter Try.func128, Try.ntmps128
  go_wp2
  go_ret
  exact ⟨by simp, rfl⟩
set_option maxHeartbeats 1000000 in
theorem cmpI (x y : Int) (w : World) : Calls Try.prog 113 #[.int .i64 x, .int .i64 y] w fun e w' => e = .returned (.int .i64 (cmpZ x y)) ∧ w' = w := by
  unfold cmpZ
  by_cases c : x < y
  · rw [if_pos c]
    have c0 := decide_eq_true c
    go_enter Try.func113, Try.ntmps113
    go_wp2_with (go_at_call 128; refine (nan _ _).mono ?_; rintro e w' ⟨rfl, rfl⟩)
    go_ret
    exact ⟨rfl, rfl⟩
  · rw [if_neg c]
    have c0 := decide_eq_false c
    by_cases d : y < x
    · rw [if_pos d]
      have d0 := decide_eq_true d
      go_enter Try.func113, Try.ntmps113
      go_wp2_with (go_at_call 128; refine (nan _ _).mono ?_; rintro e w' ⟨rfl, rfl⟩)
      go_ret
      exact ⟨rfl, rfl⟩
    · rw [if_neg d]
      have d0 := decide_eq_false d
      go_enter Try.func113, Try.ntmps113
      go_wp2_with (go_at_call 128; refine (nan _ _).mono ?_; rintro e w' ⟨rfl, rfl⟩)
      go_ret
      exact ⟨rfl, rfl⟩
/-- Pairs by their first, then by their second number. -/
def cf (x y : Int × Int) : Int := if cmpZ x.1 y.1 = 0 then cmpZ x.2 y.2 else cmpZ x.1 y.1
set_option maxHeartbeats 2000000 in
theorem cmpS (a b : Nat) (x0 x1 y0 y1 : Int) (w : World) (h0 : w.cell? ⟨a, 0, none⟩ = some (.int .i64 x0)) (h1 : w.cell? ⟨a, 1, none⟩ = some (.int .i64 x1)) (k0 : w.cell? ⟨b, 0, none⟩ = some (.int .i64 y0)) (k1 : w.cell? ⟨b, 1, none⟩ = some (.int .i64 y1)) :
    Calls Try.prog 97 #[.slice (some ⟨a, 0, none⟩) 2 2, .slice (some ⟨b, 0, none⟩) 2 2] w fun e w' => e = .returned (.int .i64 (cf (x0, x1) (y0, y1))) ∧ w' = w := by
  unfold cf
  have A := fun W => cmpI x0 y0 W
  have B := fun W => cmpI x1 y1 W
  simp only
  generalize cmpZ x0 y0 = p at A ⊢
  generalize cmpZ x1 y1 = q at B ⊢
  by_cases c : p = 0
  · subst c
    rw [if_pos rfl]
    by_cases d : q = 0
    · subst d
      go_enter Try.func97, Try.ntmps97
      go_wp2
      refine wp_loop_rounds 3 ?_
      rw [rounds_succ]
      go_wp2_with (first | (go_at_call 113; (with_reducible refine (A _).mono ?_); rintro e w' ⟨rfl, rfl⟩) | (go_at_call 113; (with_reducible refine (B _).mono ?_); rintro e w' ⟨rfl, rfl⟩))
      try (rw [rounds_succ]; go_wp2_with (first | (go_at_call 113; (with_reducible refine (A _).mono ?_); rintro e w' ⟨rfl, rfl⟩) | (go_at_call 113; (with_reducible refine (B _).mono ?_); rintro e w' ⟨rfl, rfl⟩)))
      try (rw [rounds_succ]; go_wp2)
      go_ret
      exact ⟨rfl, rfl⟩
    · have d0 : (q != 0) = true := bne_iff_ne.mpr d
      go_enter Try.func97, Try.ntmps97
      go_wp2
      refine wp_loop_rounds 3 ?_
      rw [rounds_succ]
      go_wp2_with (first | (go_at_call 113; (with_reducible refine (A _).mono ?_); rintro e w' ⟨rfl, rfl⟩) | (go_at_call 113; (with_reducible refine (B _).mono ?_); rintro e w' ⟨rfl, rfl⟩))
      try (rw [rounds_succ]; go_wp2_with (first | (go_at_call 113; (with_reducible refine (A _).mono ?_); rintro e w' ⟨rfl, rfl⟩) | (go_at_call 113; (with_reducible refine (B _).mono ?_); rintro e w' ⟨rfl, rfl⟩)))
      try (rw [rounds_succ]; go_wp2)
      go_ret
      exact ⟨rfl, rfl⟩
  · rw [if_neg c]
    have c0 : (p != 0) = true := bne_iff_ne.mpr c
    go_enter Try.func97, Try.ntmps97
    go_wp2
    refine wp_loop_rounds 3 ?_
    rw [rounds_succ]
    go_wp2_with (first | (go_at_call 113; (with_reducible refine (A _).mono ?_); rintro e w' ⟨rfl, rfl⟩) | (go_at_call 113; (with_reducible refine (B _).mono ?_); rintro e w' ⟨rfl, rfl⟩))
    go_ret
    exact ⟨rfl, rfl⟩
set_option maxHeartbeats 2000000 in
/-- The closure: it boxes both pairs. -/
theorem clo (x y : Int × Int) (W : World) : Calls Try.prog 96 #[.agg #[.int .i64 x.1, .int .i64 x.2], .agg #[.int .i64 y.1, .int .i64 y.2]] W fun e w' => e = .returned (.int .i64 (cf x y)) ∧ ∃ q os', w' = grow (W.drewN q) os' := by
  obtain ⟨x0, x1⟩ := x
  obtain ⟨y0, y1⟩ := y
  have A := fun a b w' h0 h1 k0 k1 => cmpS a b x0 x1 y0 y1 w' h0 h1 k0 k1
  generalize cf (x0, x1) (y0, y1) = r at A ⊢
  go_enter Try.func96, Try.ntmps96
  go_wp2_with fail
  have e1 : ∀ n i, (((W.alloc (.cells #[.int .i64 x0, .int .i64 x1] 46)).alloc (.cells #[.int .i64 y0, .int .i64 y1] 46)).drewN n).cell? ⟨W.heap.size, i, none⟩ = #[Value.int .i64 x0, Value.int .i64 x1][i]? := fun n i => World.cell?_alloc2_first _ _ _ i
  have e2 : ∀ n i, (((W.alloc (.cells #[.int .i64 x0, .int .i64 x1] 46)).alloc (.cells #[.int .i64 y0, .int .i64 y1] 46)).drewN n).cell? ⟨W.heap.size + 1, i, none⟩ = #[Value.int .i64 y0, Value.int .i64 y1][i]? := fun n i => World.cell?_alloc2_new _ _ _ i
  have HE1 := Aside0.mk e1
  have HE2 := Aside0.mk e2
  clear e1 e2
  have eg : grow W #[.cells #[.int .i64 x0, .int .i64 x1] 46, .cells #[.int .i64 y0, .int .i64 y1] 46] = (W.alloc (.cells #[.int .i64 x0, .int .i64 x1] 46)).alloc (.cells #[.int .i64 y0, .int .i64 y1] 46) := by
    rw [alloc_eq_grow, alloc_eq_grow, grow_grow]; rfl
  have HG := Aside0.mk eg
  clear eg
  generalize (W.alloc (.cells #[.int .i64 x0, .int .i64 x1] 46)).alloc (.cells #[.int .i64 y0, .int .i64 y1] 46) = W2 at HE1 HE2 HG ⊢
  go_quiet (first | (go_at_call 97; (with_reducible refine (A _ _ _ (HE1.out _ 0) (HE1.out _ 1) (HE2.out _ 0) (HE2.out _ 1)).mono ?_); rintro e w' ⟨rfl, rfl⟩; exact ⟨rfl, _, rfl⟩))
  go_wp2_with fail
  go_ret
  exact ⟨rfl, nq, #[.cells #[.int .i64 x0, .int .i64 x1] 46, .cells #[.int .i64 y0, .int .i64 y1] 46], by rw [← HG.out]; rfl⟩
end Go.Proofs.Yteinllalhiflcaa.Sf
