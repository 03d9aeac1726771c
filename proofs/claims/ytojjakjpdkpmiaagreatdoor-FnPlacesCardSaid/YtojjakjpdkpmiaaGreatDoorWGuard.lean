/- Words of the kit's print, as print.sh wrote them for this claim: those of them that this claim leans on (chosen by wip/tools/shake.py). -/
import Derived.Test.YtojjakjpdkpmiaaGreatDoorWWords
namespace Go.Proofs.YtojjakjpdkpmiaaGreatDoorW.PrintWords
open Go.RowKit
section
variable {P : Program} {ops : Array Oper} {rest : List Oper} {o : Oper} {a : Act} {Q : Exit → Act → World → Prop} {W : World}
theorem gate_guard (hw : Region.wanted o (yielded ops a.tmps) = true) (h : wpList P ops Q ({ o with guard := none } :: rest) a W) : wpList P ops Q (o :: rest) a W := by
  have h1 : Region.wanted { o with guard := none } (yielded ops a.tmps) = true := rfl
  unfold wpList at h ⊢
  rw [if_pos h1] at h
  rw [if_pos hw]
  exact h
end
end Go.Proofs.YtojjakjpdkpmiaaGreatDoorW.PrintWords
