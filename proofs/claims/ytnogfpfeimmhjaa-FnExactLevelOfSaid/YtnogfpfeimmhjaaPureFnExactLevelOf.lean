/- FnExactLevelOf: the printed pure statement holds: at every input the law's function answers true; no condition but the bounds of its kinds. -/
import Derived.Test.YtnogfpfeimmhjaaQFnExactLevelOfx1
import Derived.Test.YtnogfpfeimmhjaaLib
set_option linter.unusedVariables false
set_option linter.unusedSimpArgs false
namespace Go.Proofs.Ytnogfpfeimmhjaa.Pure
open Go.RowKit Go.Proofs.Ytnogfpfeimmhjaa.QFnExactLevelOf Go.Proofs.YtnogfpfeimmhjaaW.PrintWords Go.Proofs.YtnogfpfeimmhjaaW.PrintLast Go.Proofs.Ytnogfpfeimmhjaa.Lib

theorem level_spec (k : Nat) (a i i' c : Int) (hj : wrap64 (i + 1) = i') (hi : 0 ≤ IntKind.u64.wrap i) (hc : shl .i64 1 (shl .u64 1 (IntKind.u64.wrap i)) = c) (h0 : 0 ≤ a) (h1 : a ≤ 65535) :
    spec_l01Level.l0 (k + 1) a i = if a ≥ c then spec_l01Level.l0 k a i' else some i := by
  simp only [spec_l01Level.l0]
  rw [hj, if_pos hi, hc, w64 (by omega) (by omega)]
theorem level_impl (k : Nat) (a i i' : Int) (c : Nat) (hj : wrap64 (i + 1) = i') (hi : 0 ≤ i) (hc : 2 ^ min (shl .u64 1 i).toNat 16 = c) (h0 : 0 ≤ a) :
    impl_level.l0 (k + 1) a i = if a < c then some i else impl_level.l0 k a i' := by
  simp only [impl_level.l0]
  rw [hj, if_pos hi]
  have hp : 0 < c := by rw [← hc]; exact Nat.two_pow_pos _
  have e : shr .u16 a (shl .u64 1 i) = a / (c : Int) := by
    unfold shr
    rw [← hc]
    simp [IntKind.bits]
  rw [e]
  by_cases h : a < c
  · rw [if_pos h, if_pos (Int.ediv_eq_zero_of_lt h0 h)]
  · rw [if_neg h, if_neg]
    intro e0
    have h2 := Int.ediv_mul_add_emod a c
    rw [e0] at h2
    have := Int.emod_lt_of_pos a (show (0 : Int) < c by omega)
    omega
theorem FnExactLevelOf : laws_FnExactLevelOf.Pure := by
  intro a hw
  obtain ⟨h0, h1⟩ := wf_u16 hw
  have s0 : spec_l01Level.l0 6 a 0 = if a ≥ 2 then spec_l01Level.l0 5 a 1 else some 0 := level_spec 5 a 0 1 2 (by unfold wrap64; omega) (by decide) (by decide) h0 h1
  have s1 : spec_l01Level.l0 5 a 1 = if a ≥ 4 then spec_l01Level.l0 4 a 2 else some 1 := level_spec 4 a 1 2 4 (by unfold wrap64; omega) (by decide) (by decide) h0 h1
  have s2 : spec_l01Level.l0 4 a 2 = if a ≥ 16 then spec_l01Level.l0 3 a 3 else some 2 := level_spec 3 a 2 3 16 (by unfold wrap64; omega) (by decide) (by decide) h0 h1
  have s3 : spec_l01Level.l0 3 a 3 = if a ≥ 256 then spec_l01Level.l0 2 a 4 else some 3 := level_spec 2 a 3 4 256 (by unfold wrap64; omega) (by decide) (by decide) h0 h1
  have s4 : spec_l01Level.l0 2 a 4 = if a ≥ 65536 then spec_l01Level.l0 1 a 5 else some 4 := level_spec 1 a 4 5 65536 (by unfold wrap64; omega) (by decide) (by decide) h0 h1
  have i0 : impl_level.l0 6 a 0 = if a < 2 then some 0 else impl_level.l0 5 a 1 := level_impl 5 a 0 1 2 (by unfold wrap64; omega) (by decide) (by decide) h0
  have i1 : impl_level.l0 5 a 1 = if a < 4 then some 1 else impl_level.l0 4 a 2 := level_impl 4 a 1 2 4 (by unfold wrap64; omega) (by decide) (by decide) h0
  have i2 : impl_level.l0 4 a 2 = if a < 16 then some 2 else impl_level.l0 3 a 3 := level_impl 3 a 2 3 16 (by unfold wrap64; omega) (by decide) (by decide) h0
  have i3 : impl_level.l0 3 a 3 = if a < 256 then some 3 else impl_level.l0 2 a 4 := level_impl 2 a 3 4 256 (by unfold wrap64; omega) (by decide) (by decide) h0
  have i4 : impl_level.l0 2 a 4 = if a < 65536 then some 4 else impl_level.l0 1 a 5 := level_impl 1 a 4 5 65536 (by unfold wrap64; omega) (by decide) (by decide) h0
  have e : impl_level.l0 6 a 0 = spec_l01Level.l0 6 a 0 ∧ ∃ r, spec_l01Level.l0 6 a 0 = some r := by
    rw [s0, i0]
    by_cases c0 : a < 2
    · rw [if_pos c0, if_neg (by omega)]; exact ⟨rfl, _, rfl⟩
    rw [if_neg c0, if_pos (by omega), s1, i1]
    by_cases c1 : a < 4
    · rw [if_pos c1, if_neg (by omega)]; exact ⟨rfl, _, rfl⟩
    rw [if_neg c1, if_pos (by omega), s2, i2]
    by_cases c2 : a < 16
    · rw [if_pos c2, if_neg (by omega)]; exact ⟨rfl, _, rfl⟩
    rw [if_neg c2, if_pos (by omega), s3, i3]
    by_cases c3 : a < 256
    · rw [if_pos c3, if_neg (by omega)]; exact ⟨rfl, _, rfl⟩
    rw [if_neg c3, if_pos (by omega), s4, i4, if_pos (by omega), if_neg (by omega)]
    exact ⟨rfl, _, rfl⟩
  obtain ⟨e, r, hr⟩ := e
  refine ⟨6, ?_⟩
  show ((spec_l01Level.l0 6 a 0).bind fun t => some t).bind (fun t103 => ((impl_level.l0 6 a 0).bind fun t => some t).bind fun t104 => if t104 = t103 then some true else some false) = some true
  rw [e, hr]
  simp

end Go.Proofs.Ytnogfpfeimmhjaa.Pure
