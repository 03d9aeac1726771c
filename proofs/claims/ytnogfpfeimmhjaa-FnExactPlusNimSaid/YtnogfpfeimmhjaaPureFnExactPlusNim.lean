/- FnExactPlusNim: the printed pure statement holds: at every input the law's function answers true; no condition but the bounds of its kinds. -/
import Derived.Test.YtnogfpfeimmhjaaPFnExactPlusNimx1
import Derived.Test.YtnogfpfeimmhjaaLib
set_option linter.unusedVariables false
set_option linter.unusedSimpArgs false
namespace Go.Proofs.Ytnogfpfeimmhjaa.Pure
open Go.RowKit Go.Proofs.Ytnogfpfeimmhjaa.PFnExactPlusNim Go.Proofs.YtnogfpfeimmhjaaW.PrintWords Go.Proofs.YtnogfpfeimmhjaaW.PrintLast Go.Proofs.Ytnogfpfeimmhjaa.Lib

theorem FnExactPlusNim : laws_FnExactPlusNim.Pure := by
  intro a b _ _
  unfold laws_FnExactPlusNim.f spec_PlusNim.f impl_PlusNim.f
  simp

end Go.Proofs.Ytnogfpfeimmhjaa.Pure
