/- Contracts of library functions, laid at this seat's translation by the kit's shelf: tables of numbers, and one application each. -/
import Derived.Shelf.LaysC
import Derived.Shelf.Strings.Split
import Derived.Test.YtojjakjpdkpmiaaGreatDoorProg
namespace Go.Proofs
open Go.Shelf
def Tryz.lays146_ren : Go.Shelf.Ren := ⟨fun | 146 => 31 | 221 => 50 | 268 => 61 | 138 => 62 | 143 => 63 | 195 => 70 | 197 => 71 | 218 => 72 | 219 => 73 | 260 => 85 | 217 => 86 | 225 => 87 | 224 => 88 | 267 => 89 | 266 => 100 | 314 => 101 | n => n, fun | 9 => 9 | 31 => 63 | 3 => 3 | 4 => 4 | 0 => 0 | 105 => 107 | 21 => 21 | 5 => 5 | 46 => 104 | 119 => 138 | 139 => 141 | 138 => 140 | 146 => 142 | 51 => 134 | n => n, fun | 1 => 0 | 3 => 4 | 4 => 5 | n => n⟩
theorem Tryz.lays146 : Go.Proofs.Lays.n146 Tryz.prog Tryz.lays146_ren := {
  mixed := by kernel_rfl
  f138 := Tryz.func62.trans (congrArg some (by kernel_rfl))
  f143 := Tryz.func63.trans (congrArg some (by kernel_rfl))
  f146 := Tryz.func31.trans (congrArg some (by kernel_rfl))
  f195 := Tryz.func70.trans (congrArg some (by kernel_rfl))
  f197 := Tryz.func71.trans (congrArg some (by kernel_rfl))
  f217 := Tryz.func86.trans (congrArg some (by kernel_rfl))
  f218 := Tryz.func72.trans (congrArg some (by kernel_rfl))
  f219 := Tryz.func73.trans (congrArg some (by kernel_rfl))
  f221 := Tryz.func50.trans (congrArg some (by kernel_rfl))
  f224 := Tryz.func88.trans (congrArg some (by kernel_rfl))
  f225 := Tryz.func87.trans (congrArg some (by kernel_rfl))
  f260 := Tryz.func85.trans (congrArg some (by kernel_rfl))
  f266 := Tryz.func100.trans (congrArg some (by kernel_rfl))
  f267 := Tryz.func89.trans (congrArg some (by kernel_rfl))
  f268 := Tryz.func61.trans (congrArg some (by kernel_rfl))
  f314 := Tryz.func101.trans (congrArg some (by kernel_rfl))
  t0 := Tryz.underlying0
  a0 := Tryz.isAgg0
  z0 := Tryz.sizeOf0
  v0 := Tryz.zeroValue0
  t3 := Tryz.underlying3
  a3 := Tryz.isAgg3
  z3 := Tryz.sizeOf3
  v3 := Tryz.zeroValue3
  t4 := Tryz.underlying4
  a4 := Tryz.isAgg4
  z4 := Tryz.sizeOf4
  v4 := Tryz.zeroValue4
  t5 := Tryz.underlying5
  a5 := Tryz.isAgg5
  z5 := Tryz.sizeOf5
  v5 := Tryz.zeroValue5
  t9 := Tryz.underlying9
  a9 := Tryz.isAgg9
  z9 := Tryz.sizeOf9
  v9 := Tryz.zeroValue9
  t21 := Tryz.underlying21
  a21 := Tryz.isAgg21
  z21 := Tryz.sizeOf21
  v21 := Tryz.zeroValue21
  t31 := Tryz.underlying63
  a31 := Tryz.isAgg63
  z31 := Tryz.sizeOf63
  v31 := Tryz.zeroValue63
  t46 := Tryz.underlying104
  a46 := Tryz.isAgg104
  z46 := Tryz.sizeOf104
  v46 := Tryz.zeroValue104
  t51 := Tryz.underlying134
  a51 := Tryz.isAgg134
  z51 := Tryz.sizeOf134
  v51 := Tryz.zeroValue134
  t105 := Tryz.underlying107
  a105 := Tryz.isAgg107
  z105 := Tryz.sizeOf107
  v105 := Tryz.zeroValue107
  t119 := Tryz.underlying138
  a119 := Tryz.isAgg138
  z119 := Tryz.sizeOf138
  t138 := Tryz.underlying140
  a138 := Tryz.isAgg140
  z138 := Tryz.sizeOf140
  v138 := Tryz.zeroValue140
  t139 := Tryz.underlying141
  a139 := Tryz.isAgg141
  z139 := Tryz.sizeOf141
  v139 := Tryz.zeroValue141
  t146 := Tryz.underlying142
  a146 := Tryz.isAgg142
  z146 := Tryz.sizeOf142
  v146 := Tryz.zeroValue142
  g1 := by kernel_rfl
  g3 := by kernel_rfl
  g4 := by kernel_rfl }
open Go.RowKit Go.Lib in
theorem Tryz.strings_Split (s sep : ByteArray) (m : Int) (w : World) (hs : s.size < 4294967281) (hm : w.cell? ⟨0, 0, none⟩ = some (.int .i64 m)) (h1 : 1 ≤ sep.size) :
    Calls Tryz.prog 31 #[.string s, .string sep] w fun e w' =>
      e = .returned (.slice (some ⟨w.heap.size, 0, none⟩) (Lib.countB s sep + 1) (Lib.countB s sep + 1)) ∧ w' = w.alloc (.cells ((Lib.splitB sep 0 (Lib.countB s sep) s).map Value.string).toArray 9) := Any.strings_Split Tryz.lays146 (by kernel_rfl) s sep m w hs hm h1
end Go.Proofs
