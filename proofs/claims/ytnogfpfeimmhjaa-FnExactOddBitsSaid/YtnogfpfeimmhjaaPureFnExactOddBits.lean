/- FnExactOddBits: the printed pure statement holds: at every input the law's function answers true; no condition but the bounds of its kinds. -/
import Derived.Test.YtnogfpfeimmhjaaPFnExactOddBitsx1
import Derived.Test.YtnogfpfeimmhjaaLib
import Derived.Test.YtnogfpfeimmhjaaLib2
set_option linter.unusedVariables false
set_option linter.unusedSimpArgs false
namespace Go.Proofs.Ytnogfpfeimmhjaa.Pure
open Go.RowKit Go.Proofs.Ytnogfpfeimmhjaa.PFnExactOddBits Go.Proofs.YtnogfpfeimmhjaaW.PrintWords Go.Proofs.YtnogfpfeimmhjaaW.PrintLast Go.Proofs.Ytnogfpfeimmhjaa.Lib

theorem spec_bits_ev : ∀ (d x : Nat) (c : Int), x < 2 ^ d → d ≤ 64 → 0 ≤ c → c + d ≤ 200 → Ev (fun k => spec_l04Bits.l0 k (x : Int) c) (c + ((pop d x : Nat) : Int)) := by
  intro d
  induction d with
  | zero =>
    intro x c h _ _ _
    refine Ev_round ?_
    simp only [spec_l04Bits.l0]
    have : x = 0 := by simpa using h
    exact Ev_pos (by omega) (Ev_as (Ev.now _) (by simp [pop]))
  | succ d ih =>
    intro x c h hd hc hc2
    refine Ev_round ?_
    simp only [spec_l04Bits.l0]
    by_cases hx : x = 0
    · subst hx
      exact Ev_pos rfl (Ev_as (Ev.now _) (by simp [pop_zero]))
    · have hb : x < 2 ^ 64 := Nat.lt_of_lt_of_le h (Nat.pow_le_pow_right (by omega) hd)
      refine Ev_neg (by omega) ?_
      rw [and1_u64 (by omega) (by omega), w64 (x := (x : Int) % 2) (by omega) (by omega), w64 (by omega) (by omega), show ((x : Int) / 2) = ((x / 2 : Nat) : Int) by omega]
      refine Ev_as (ih (x / 2) (c + (x : Int) % 2) (by rw [Nat.pow_succ] at h; omega) (by omega) (by omega) (by omega)) ?_
      simp only [pop]
      omega
theorem spec_bits_f {a : Int} (h0 : 0 ≤ a) (h1 : a ≤ 18446744073709551615) : Ev (fun k => spec_l04Bits.f k a) ((pop 64 a.toNat : Nat) : Int) := by
  obtain ⟨x, rfl⟩ := Int.eq_ofNat_of_zero_le h0
  exact Ev_as (spec_bits_ev 64 x 0 (by omega) (by omega) (by omega) (by omega)) (by simp)

theorem ones_ev {a : Int} (h0 : 0 ≤ a) (h1 : a ≤ 18446744073709551615) : bits_OnesCount64.f a = some ((pop 64 a.toNat : Nat) : Int) := by
  obtain ⟨x, rfl⟩ := Int.eq_ofNat_of_zero_le h0
  rw [Int.toNat_natCast, ← ones_nat x (by omega)]
  rfl

theorem FnExactOddBits : laws_FnExactOddBits.Pure := by
  intro n wn
  have hn := wf_i64 wn
  refine Ev.rounds (r := true) ?_
  unfold laws_FnExactOddBits.f spec_OddBits.f impl_OddBits.f spec_l00In.f impl_within.f
  by_cases c0 : 0 ≤ n
  · by_cases c1 : n ≤ 1000000000
    · have e : IntKind.u64.wrap n = n := wu64 (by omega) (by omega)
      rw [e]
      refine Ev.bind (a := ((Int.tmod ((pop 64 n.toNat : Nat) : Int) 2) == 1, 0)) (Ev_bind1 (if_pos c0) (Ev_pos (by simpa using c1) (Ev.bind (spec_bits_f c0 (by omega)) (Ev.now _)))) ?_
      refine Ev_bind1 (a := ((Int.tmod ((pop 64 n.toNat : Nat) : Int) 2) == 1, 0)) ?_ ?_
      · rw [if_pos c0, ones_ev c0 (by omega)]
        simp [c1]
      · exact Ev_neg (by simp) (Ev_pos rfl (Ev.now _))
    · refine Ev.bind (a := (false, 2)) (Ev_bind1 (if_pos c0) (Ev_neg (by simpa using c1) (Ev.now _))) ?_
      refine Ev_bind1 (a := (false, 2)) (by rw [if_pos c0]; simp [c1]) ?_
      exact Ev_neg (by simp) (Ev_pos rfl (Ev.now _))
  · refine Ev.bind (a := (false, 2)) (Ev_bind1 (if_neg c0) (Ev_neg (by simp) (Ev.now _))) ?_
    refine Ev_bind1 (a := (false, 2)) (by rw [if_neg c0]; simp) ?_
    exact Ev_neg (by simp) (Ev_pos rfl (Ev.now _))

end Go.Proofs.Ytnogfpfeimmhjaa.Pure
