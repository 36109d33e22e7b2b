/- utf8.ValidString, laid at this program by hand. -/
import Derived.Test.YtdphhmigbbgjmaaDoorProg
import Derived.Shelf.Unicode.ValidAny
namespace Go.Proofs
open Go.Shelf
def Tryd.val_ren : Go.Shelf.Ren := ⟨fun | 196 => 60 | 259 => 112 | n => n, fun | 0 => 0 | 3 => 3 | 4 => 4 | 5 => 5 | 9 => 9 | 12 => 12 | 46 => 142 | 53 => 188 | 119 => 149 | 138 => 151 | 139 => 152 | n => n, fun | 3 => 1 | 4 => 2 | n => n⟩
theorem Tryd.lays196 : Go.Proofs.Lays.n196 Tryd.prog Tryd.val_ren := {
  mixed := by kernel_rfl
  f196 := Tryd.func60.trans (congrArg some (by kernel_rfl))
  f259 := Tryd.func112.trans (congrArg some (by kernel_rfl))
  t0 := Tryd.underlying0
  a0 := Tryd.isAgg0
  z0 := Tryd.sizeOf0
  v0 := Tryd.zeroValue0
  t3 := Tryd.underlying3
  a3 := Tryd.isAgg3
  z3 := Tryd.sizeOf3
  v3 := Tryd.zeroValue3
  t4 := Tryd.underlying4
  a4 := Tryd.isAgg4
  z4 := Tryd.sizeOf4
  v4 := Tryd.zeroValue4
  t5 := Tryd.underlying5
  a5 := Tryd.isAgg5
  z5 := Tryd.sizeOf5
  v5 := Tryd.zeroValue5
  t9 := Tryd.underlying9
  a9 := Tryd.isAgg9
  z9 := Tryd.sizeOf9
  v9 := Tryd.zeroValue9
  t12 := Tryd.underlying12
  a12 := Tryd.isAgg12
  z12 := Tryd.sizeOf12
  v12 := Tryd.zeroValue12
  t46 := Tryd.underlying142
  a46 := Tryd.isAgg142
  z46 := Tryd.sizeOf142
  v46 := Tryd.zeroValue142
  t53 := Tryd.underlying188
  a53 := Tryd.isAgg188
  z53 := Tryd.sizeOf188
  v53 := Tryd.zeroValue188
  t119 := Tryd.underlying149
  a119 := Tryd.isAgg149
  z119 := Tryd.sizeOf149
  t138 := Tryd.underlying151
  a138 := Tryd.isAgg151
  z138 := Tryd.sizeOf151
  v138 := Tryd.zeroValue151
  t139 := Tryd.underlying152
  a139 := Tryd.isAgg152
  z139 := Tryd.sizeOf152
  v139 := Tryd.zeroValue152
  g3 := by kernel_rfl
  g4 := by kernel_rfl }
open Go.RowKit in
theorem Tryd.utf8_ValidString (s : ByteArray) (w : World) (hs : s.size ≤ 9223372036854775807) (hT : Lib.Utf8Tabs 1 2 w) :
    Calls Tryd.prog 60 #[.string s] w fun e w' => e = .returned (.bool (Lib.validD s.data.toList)) ∧ Below w.heap.size w w' := Any.utf8_ValidString Tryd.lays196 s w hs hT
end Go.Proofs
