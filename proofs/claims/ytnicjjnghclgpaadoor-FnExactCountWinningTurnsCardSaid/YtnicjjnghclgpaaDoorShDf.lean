/- slices.DeleteFunc, laid at this seat's translation by the kit's shelf: a table of numbers, and one application. -/
import Derived.Shelf.SlicesE.DeleteFunc
import Derived.Test.YtnicjjnghclgpaaDoorProg
namespace Go.Proofs
open Go.Shelf
def Tryd.laysDf_ren : Go.Shelf.Ren := ⟨fun | 10 => 42 | 6 => 50 | n => n, fun | 22 => 22 | 23 => 33 | 25 => 57 | 3 => 3 | 4 => 4 | 0 => 0 | n => n, fun | n => n⟩
theorem Tryd.laysDf : Go.Proofs.SlLaysH.n10 Tryd.prog Tryd.laysDf_ren := {
  mixed := by kernel_rfl
  f6 := ⟨Tryd.f50.name, by decide, Tryd.func50.trans (congrArg some (by kernel_rfl))⟩
  f10 := ⟨Tryd.f42.name, by decide, Tryd.func42.trans (congrArg some (by kernel_rfl))⟩
  t0 := Tryd.underlying0
  a0 := Tryd.isAgg0
  z0 := Tryd.sizeOf0
  v0 := Tryd.zeroValue0
  t3 := Tryd.underlying3
  a3 := Tryd.isAgg3
  z3 := Tryd.sizeOf3
  v3 := Tryd.zeroValue3
  t4 := Tryd.underlying4
  a4 := Tryd.isAgg4
  z4 := Tryd.sizeOf4
  v4 := Tryd.zeroValue4
  t22 := Tryd.underlying22
  a22 := Tryd.isAgg22
  z22 := Tryd.sizeOf22
  v22 := Tryd.zeroValue22
  a23 := Tryd.isAgg33
  z23 := Tryd.sizeOf33
  t25 := Tryd.underlying57
  a25 := Tryd.isAgg57
  z25 := Tryd.sizeOf57
  v25 := Tryd.zeroValue57 }
end Go.Proofs
