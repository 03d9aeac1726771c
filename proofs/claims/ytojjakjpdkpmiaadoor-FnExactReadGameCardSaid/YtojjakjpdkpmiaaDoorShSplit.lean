/- Contracts of library functions, laid at this seat's translation by the kit's shelf: tables of numbers, and one application each. -/
import Derived.Shelf.LaysC
import Derived.Shelf.Strings.Split
import Derived.Test.YtojjakjpdkpmiaaDoorProg
namespace Go.Proofs
open Go.Shelf
def Tryd.lays146_ren : Go.Shelf.Ren := ⟨fun | 146 => 77 | 221 => 100 | 268 => 120 | 138 => 121 | 143 => 122 | 195 => 148 | 197 => 124 | 218 => 149 | 219 => 150 | 260 => 151 | 217 => 169 | 225 => 170 | 224 => 171 | 267 => 172 | 266 => 178 | 314 => 179 | n => n, fun | 9 => 9 | 31 => 75 | 3 => 3 | 4 => 4 | 0 => 0 | 105 => 133 | 21 => 21 | 5 => 5 | 46 => 90 | 119 => 180 | 139 => 183 | 138 => 182 | 146 => 191 | 51 => 33 | n => n, fun | 1 => 2 | 3 => 5 | 4 => 6 | n => n⟩
theorem Tryd.lays146 : Go.Proofs.Lays.n146 Tryd.prog Tryd.lays146_ren := {
  mixed := by kernel_rfl
  f138 := Tryd.func121.trans (congrArg some (by kernel_rfl))
  f143 := Tryd.func122.trans (congrArg some (by kernel_rfl))
  f146 := Tryd.func77.trans (congrArg some (by kernel_rfl))
  f195 := Tryd.func148.trans (congrArg some (by kernel_rfl))
  f197 := Tryd.func124.trans (congrArg some (by kernel_rfl))
  f217 := Tryd.func169.trans (congrArg some (by kernel_rfl))
  f218 := Tryd.func149.trans (congrArg some (by kernel_rfl))
  f219 := Tryd.func150.trans (congrArg some (by kernel_rfl))
  f221 := Tryd.func100.trans (congrArg some (by kernel_rfl))
  f224 := Tryd.func171.trans (congrArg some (by kernel_rfl))
  f225 := Tryd.func170.trans (congrArg some (by kernel_rfl))
  f260 := Tryd.func151.trans (congrArg some (by kernel_rfl))
  f266 := Tryd.func178.trans (congrArg some (by kernel_rfl))
  f267 := Tryd.func172.trans (congrArg some (by kernel_rfl))
  f268 := Tryd.func120.trans (congrArg some (by kernel_rfl))
  f314 := Tryd.func179.trans (congrArg some (by kernel_rfl))
  t0 := Tryd.underlying0
  a0 := Tryd.isAgg0
  z0 := Tryd.sizeOf0
  v0 := Tryd.zeroValue0
  t3 := Tryd.underlying3
  a3 := Tryd.isAgg3
  z3 := Tryd.sizeOf3
  v3 := Tryd.zeroValue3
  t4 := Tryd.underlying4
  a4 := Tryd.isAgg4
  z4 := Tryd.sizeOf4
  v4 := Tryd.zeroValue4
  t5 := Tryd.underlying5
  a5 := Tryd.isAgg5
  z5 := Tryd.sizeOf5
  v5 := Tryd.zeroValue5
  t9 := Tryd.underlying9
  a9 := Tryd.isAgg9
  z9 := Tryd.sizeOf9
  v9 := Tryd.zeroValue9
  t21 := Tryd.underlying21
  a21 := Tryd.isAgg21
  z21 := Tryd.sizeOf21
  v21 := Tryd.zeroValue21
  t31 := Tryd.underlying75
  a31 := Tryd.isAgg75
  z31 := Tryd.sizeOf75
  v31 := Tryd.zeroValue75
  t46 := Tryd.underlying90
  a46 := Tryd.isAgg90
  z46 := Tryd.sizeOf90
  v46 := Tryd.zeroValue90
  t51 := Tryd.underlying33
  a51 := Tryd.isAgg33
  z51 := Tryd.sizeOf33
  v51 := Tryd.zeroValue33
  t105 := Tryd.underlying133
  a105 := Tryd.isAgg133
  z105 := Tryd.sizeOf133
  v105 := Tryd.zeroValue133
  t119 := Tryd.underlying180
  a119 := Tryd.isAgg180
  z119 := Tryd.sizeOf180
  t138 := Tryd.underlying182
  a138 := Tryd.isAgg182
  z138 := Tryd.sizeOf182
  v138 := Tryd.zeroValue182
  t139 := Tryd.underlying183
  a139 := Tryd.isAgg183
  z139 := Tryd.sizeOf183
  v139 := Tryd.zeroValue183
  t146 := Tryd.underlying191
  a146 := Tryd.isAgg191
  z146 := Tryd.sizeOf191
  v146 := Tryd.zeroValue191
  g1 := by kernel_rfl
  g3 := by kernel_rfl
  g4 := by kernel_rfl }
open Go.RowKit Go.Lib in
theorem Tryd.strings_Split (s sep : ByteArray) (m : Int) (w : World) (hs : s.size < 4294967281) (hm : w.cell? ⟨2, 0, none⟩ = some (.int .i64 m)) (h1 : 1 ≤ sep.size) :
    Calls Tryd.prog 77 #[.string s, .string sep] w fun e w' =>
      e = .returned (.slice (some ⟨w.heap.size, 0, none⟩) (Lib.countB s sep + 1) (Lib.countB s sep + 1)) ∧ w' = w.alloc (.cells ((Lib.splitB sep 0 (Lib.countB s sep) s).map Value.string).toArray 9) := Any.strings_Split Tryd.lays146 (by kernel_rfl) s sep m w hs hm h1
end Go.Proofs
