import Derived.Shelf.Unicode.ValidAny
import Derived.Below
import Derived.Test.YthabooeapfepnaaGreatDoorProg
namespace Go.Proofs
open Go.Shelf
def Tryz.laysValid_ren : Go.Shelf.Ren := ⟨fun | 196 => 73 | 259 => 111 | n => n, fun | 9 => 9 | 4 => 4 | 3 => 3 | 5 => 5 | 12 => 12 | 119 => 140 | 0 => 0 | 46 => 57 | 139 => 143 | 138 => 142 | 53 => 181 | n => n, fun | 3 => 0 | 4 => 1 | n => n⟩
theorem Tryz.laysValid : Go.Proofs.Lays.n196 Tryz.prog Tryz.laysValid_ren := {
  mixed := by kernel_rfl
  f196 := Tryz.func73.trans (congrArg some (by kernel_rfl))
  f259 := Tryz.func111.trans (congrArg some (by kernel_rfl))
  t0 := Tryz.underlying0
  a0 := Tryz.isAgg0
  z0 := Tryz.sizeOf0
  v0 := Tryz.zeroValue0
  t3 := Tryz.underlying3
  a3 := Tryz.isAgg3
  z3 := Tryz.sizeOf3
  v3 := Tryz.zeroValue3
  t4 := Tryz.underlying4
  a4 := Tryz.isAgg4
  z4 := Tryz.sizeOf4
  v4 := Tryz.zeroValue4
  t5 := Tryz.underlying5
  a5 := Tryz.isAgg5
  z5 := Tryz.sizeOf5
  v5 := Tryz.zeroValue5
  t9 := Tryz.underlying9
  a9 := Tryz.isAgg9
  z9 := Tryz.sizeOf9
  v9 := Tryz.zeroValue9
  t12 := Tryz.underlying12
  a12 := Tryz.isAgg12
  z12 := Tryz.sizeOf12
  v12 := Tryz.zeroValue12
  t46 := Tryz.underlying57
  a46 := Tryz.isAgg57
  z46 := Tryz.sizeOf57
  v46 := Tryz.zeroValue57
  t53 := Tryz.underlying181
  a53 := Tryz.isAgg181
  z53 := Tryz.sizeOf181
  v53 := Tryz.zeroValue181
  t119 := Tryz.underlying140
  a119 := Tryz.isAgg140
  z119 := Tryz.sizeOf140
  t138 := Tryz.underlying142
  a138 := Tryz.isAgg142
  z138 := Tryz.sizeOf142
  v138 := Tryz.zeroValue142
  t139 := Tryz.underlying143
  a139 := Tryz.isAgg143
  z139 := Tryz.sizeOf143
  v139 := Tryz.zeroValue143
  g3 := by kernel_rfl
  g4 := by kernel_rfl }
open Go.RowKit Go.Lib
theorem Tryz.utf8_ValidString (s : ByteArray) (w : World) (hs : s.size ≤ 9223372036854775807) (hT : Lib.Utf8Tabs 0 1 w) :
    Calls Tryz.prog 73 #[.string s] w fun e w' => e = .returned (.bool (Lib.validD s.data.toList)) ∧ Below w.heap.size w w' := Any.utf8_ValidString Tryz.laysValid s w hs hT
end Go.Proofs
