/- FnExactCodeName: the printed pure statement holds: at every input the law's function answers true; no condition but the bounds of its kinds. -/
import Derived.Test.YtnogfpfeimmhjaaPFnExactCodeNamex1
import Derived.Test.YtnogfpfeimmhjaaLib
set_option linter.unusedVariables false
set_option linter.unusedSimpArgs false
namespace Go.Proofs.Ytnogfpfeimmhjaa.Pure
open Go.RowKit Go.Proofs.Ytnogfpfeimmhjaa.PFnExactCodeName Go.Proofs.YtnogfpfeimmhjaaW.PrintWords Go.Proofs.YtnogfpfeimmhjaaW.PrintLast Go.Proofs.Ytnogfpfeimmhjaa.Lib

theorem FnExactCodeName : laws_FnExactCodeName.Pure := by
  intro a _
  have e : impl_CodeName.f a = spec_CodeName.f a ∧ ∃ v, spec_CodeName.f a = some v := by
    unfold spec_CodeName.f impl_CodeName.f spec_l00In.f impl_within.f
    by_cases h0 : 0 ≤ a
    · by_cases h8 : a ≤ 8
      · simp [h0, h8]
        omega
      · simp [h0, h8]
    · simp [h0]
  obtain ⟨e, v, hv⟩ := e
  unfold laws_FnExactCodeName.f
  rw [e, hv]
  simp

end Go.Proofs.Ytnogfpfeimmhjaa.Pure
