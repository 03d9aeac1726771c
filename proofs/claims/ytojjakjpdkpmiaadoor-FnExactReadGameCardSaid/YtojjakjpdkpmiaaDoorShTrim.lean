/- Contracts of library functions, laid at this seat's translation by the kit's shelf: tables of numbers, and one application each. -/
import Derived.Shelf.Strings.Trim
import Derived.Shelf.LaysC
import Derived.Test.YtojjakjpdkpmiaaDoorProg
namespace Go.Proofs
open Go.Shelf
def Tryd.lays160_ren : Go.Shelf.Ren := ⟨fun | 160 => 82 | 232 => 102 | 231 => 101 | 227 => 103 | 234 => 105 | 233 => 104 | 236 => 107 | 235 => 106 | 228 => 123 | 271 => 126 | 151 => 125 | 197 => 124 | 120 => 153 | 152 => 152 | 260 => 151 | 137 => 173 | 119 => 174 | 224 => 171 | 225 => 170 | 217 => 169 | 266 => 178 | n => n, fun | 9 => 9 | 4 => 4 | 3 => 3 | 5 => 5 | 117 => 117 | 116 => 116 | 0 => 0 | 124 => 120 | 21 => 21 | 105 => 133 | 46 => 90 | 119 => 180 | 139 => 183 | 138 => 182 | n => n, fun | 3 => 5 | 4 => 6 | n => n⟩
theorem Tryd.lays160 : Go.Proofs.Lays.n160 Tryd.prog Tryd.lays160_ren := {
  mixed := by kernel_rfl
  f119 := Tryd.func174.trans (congrArg some (by kernel_rfl))
  f120 := Tryd.func153.trans (congrArg some (by kernel_rfl))
  f137 := Tryd.func173.trans (congrArg some (by kernel_rfl))
  f151 := Tryd.func125.trans (congrArg some (by kernel_rfl))
  f152 := Tryd.func152.trans (congrArg some (by kernel_rfl))
  f160 := Tryd.func82.trans (congrArg some (by kernel_rfl))
  f197 := Tryd.func124.trans (congrArg some (by kernel_rfl))
  f217 := Tryd.func169.trans (congrArg some (by kernel_rfl))
  f224 := Tryd.func171.trans (congrArg some (by kernel_rfl))
  f225 := Tryd.func170.trans (congrArg some (by kernel_rfl))
  f227 := Tryd.func103.trans (congrArg some (by kernel_rfl))
  f228 := Tryd.func123.trans (congrArg some (by kernel_rfl))
  f231 := Tryd.func101.trans (congrArg some (by kernel_rfl))
  f232 := Tryd.func102.trans (congrArg some (by kernel_rfl))
  f233 := Tryd.func104.trans (congrArg some (by kernel_rfl))
  f234 := Tryd.func105.trans (congrArg some (by kernel_rfl))
  f235 := Tryd.func106.trans (congrArg some (by kernel_rfl))
  f236 := Tryd.func107.trans (congrArg some (by kernel_rfl))
  f260 := Tryd.func151.trans (congrArg some (by kernel_rfl))
  f266 := Tryd.func178.trans (congrArg some (by kernel_rfl))
  f271 := Tryd.func126.trans (congrArg some (by kernel_rfl))
  t0 := Tryd.underlying0
  a0 := Tryd.isAgg0
  z0 := Tryd.sizeOf0
  v0 := Tryd.zeroValue0
  t3 := Tryd.underlying3
  a3 := Tryd.isAgg3
  z3 := Tryd.sizeOf3
  v3 := Tryd.zeroValue3
  t4 := Tryd.underlying4
  a4 := Tryd.isAgg4
  z4 := Tryd.sizeOf4
  v4 := Tryd.zeroValue4
  t5 := Tryd.underlying5
  a5 := Tryd.isAgg5
  z5 := Tryd.sizeOf5
  v5 := Tryd.zeroValue5
  t9 := Tryd.underlying9
  a9 := Tryd.isAgg9
  z9 := Tryd.sizeOf9
  v9 := Tryd.zeroValue9
  t21 := Tryd.underlying21
  a21 := Tryd.isAgg21
  z21 := Tryd.sizeOf21
  v21 := Tryd.zeroValue21
  t46 := Tryd.underlying90
  a46 := Tryd.isAgg90
  z46 := Tryd.sizeOf90
  v46 := Tryd.zeroValue90
  t105 := Tryd.underlying133
  a105 := Tryd.isAgg133
  z105 := Tryd.sizeOf133
  v105 := Tryd.zeroValue133
  t116 := Tryd.underlying116
  a116 := Tryd.isAgg116
  z116 := Tryd.sizeOf116
  t117 := Tryd.underlying117
  a117 := Tryd.isAgg117
  z117 := Tryd.sizeOf117
  v117 := Tryd.zeroValue117
  t119 := Tryd.underlying180
  a119 := Tryd.isAgg180
  z119 := Tryd.sizeOf180
  t124 := Tryd.underlying120
  a124 := Tryd.isAgg120
  z124 := Tryd.sizeOf120
  v124 := Tryd.zeroValue120
  t138 := Tryd.underlying182
  a138 := Tryd.isAgg182
  z138 := Tryd.sizeOf182
  v138 := Tryd.zeroValue182
  t139 := Tryd.underlying183
  a139 := Tryd.isAgg183
  z139 := Tryd.sizeOf183
  v139 := Tryd.zeroValue183
  g3 := by kernel_rfl
  g4 := by kernel_rfl }
open Go.RowKit in
theorem Tryd.strings_Trim_one (s : ByteArray) (c : UInt8) (hc : c.toNat < 128) (w : World) (hs : s.size ≤ 9223372036854775807) :
    Calls Tryd.prog 82 #[.string s, .string ⟨#[c]⟩] w fun e w' => e = .returned (.string ⟨(Lib.trimB s.data.toList c).toArray⟩) ∧ (w' = w ∨ w' = w.drew) := Any.strings_Trim_one Tryd.lays160 s c hc w hs
end Go.Proofs
