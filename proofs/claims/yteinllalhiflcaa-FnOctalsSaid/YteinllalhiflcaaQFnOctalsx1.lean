/- Written by the session's own program (wip/myprint.py), for the law FnOctals: each function as a plain Lean function, and its contract. -/
import Derived.Test.YteinllalhiflcaaQFnOctalsx0
namespace Go.Proofs.Yteinllalhiflcaa.QFnOctals
open Go.RowKit Go.Proofs.YteinllalhiflcaaW.PrintWords Go.Proofs.YteinllalhiflcaaW.PrintLast Go.Proofs.YteinllalhiflcaaW.PrintMore
attribute [local go_sem] max2_int min2_int max_two min_two max_three min_three max_four min_four   -- for this text's walks alone
set_option linter.unusedVariables false
set_option linter.unusedSimpArgs false

theorem eqA46 (d : Nat) (w : World) (x0 y0 : Int) (x1 y1 : Int) :
    (Op.equalIn (d + 2) 46 (.agg #[.int .i64 x0, .int .i64 x1]) (.agg #[.int .i64 y0, .int .i64 y1])).run Try.prog w = .ok (x0 == y0 && (x1 == y1)) w := by
  obtain ⟨i, hi⟩ : ∃ i, Try.prog.info? 2 = some i := Option.isSome_iff_exists.1 (by kernel_rfl)
  rw [run_equalIn_array w (d + 1) _ _ Try.underlying46 hi, show List.range 2 = [0, 1] from rfl, show Try.prog.cellsOf 2 = 1 by kernel_rfl]
  have a0 : (part 2 #[Value.int .i64 x0, .int .i64 x1] (0 * 1)).run Try.prog w = .ok (.int .i64 x0) w := by go_simp
  have a1 : (part 2 #[Value.int .i64 x0, .int .i64 x1] 1).run Try.prog w = .ok (.int .i64 x1) w := by go_simp
  have b0 : (part 2 #[Value.int .i64 y0, .int .i64 y1] (0 * 1)).run Try.prog w = .ok (.int .i64 y0) w := by go_simp
  have b1 : (part 2 #[Value.int .i64 y0, .int .i64 y1] 1).run Try.prog w = .ok (.int .i64 y1) w := by go_simp
  have e0 : (Op.equalIn (d + 1) 2 (.int .i64 x0) (.int .i64 y0)).run Try.prog w = .ok (x0 == y0) w := by go_simp
  have e1 : (Op.equalIn (d + 1) 2 (.int .i64 x1) (.int .i64 y1)).run Try.prog w = .ok (x1 == y1) w := by go_simp
  simp only [Op.eqItems, Sem.run_bind, Nat.one_mul, a0, a1, b0, b1, e0, e1, Result.andThen_ok]
  cases (x0 == y0) <;> simp [a1, b1, e1] <;> (by_cases h_ : x1 = y1 <;> simp [h_])
end Go.Proofs.Yteinllalhiflcaa.QFnOctals
