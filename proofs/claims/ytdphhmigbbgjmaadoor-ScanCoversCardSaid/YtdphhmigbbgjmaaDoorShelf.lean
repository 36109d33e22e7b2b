/-
  DERIVED: THE SHELF's CONTRACTS AT THIS DUMP, IN PLAIN WORDS (tools/lay-plain.mjs out of 'TrydShelf.lean', which tools/lay-shelf.mjs wrote): THE SAME DECLARATIONS UNDER THE SAME NAMES: 'import', 'namespace', 'open', 'def', 'theorem' AND NOTHING ELSE: no command of the shelf's: FOR A HAND-IN. Each laying: the table of numbers ('.._ren') and one theorem, a field a fact of the dump's own or the kernel's comparison; each contract: ONE APPLICATION.
-/
import Derived.Shelf.Strings.Builder1
import Derived.Shelf.Strings.Trim
import Derived.Shelf.Small.Utf8
import Derived.Shelf.Small.Strs
import Derived.Shelf.Strings.BuilderF
import Derived.Shelf.Strings.BuilderK
import Derived.Shelf.Utf8.RuneCount
import Derived.Shelf.Strings.Search1
import Derived.Shelf.Strings.Search2
import Derived.Shelf.Strings.Search3
import Derived.Shelf.Strings.Cut
import Derived.Shelf.Strings.Count
import Derived.Shelf.LaysM
import Derived.Shelf.Strings.Shaped
import Derived.Shelf.Strings.LastIndex
import Derived.Shelf.Strings.Prefix
import Derived.Shelf.Strings.Split
import Derived.Shelf.Unicode.Decode
import Derived.Shelf.Strings.Runes
import Derived.Shelf.Strings.RuneCount
import Derived.Shelf.Strings.AsciiSet
import Derived.Shelf.Bits.Mul64
import Derived.Shelf.Unicode.DecodeSlow
import Derived.Shelf.Unicode.DecodeAny
import Derived.Shelf.Unicode.DecodeLast
import Derived.Shelf.Slices.Turned
import Derived.Ground.PaProg
import Derived.Shelf.Path.Small
import Derived.Test.YtdphhmigbbgjmaaDoorProg
namespace Go.Proofs
open Go.Shelf
def Tryd.lays170_ren : Go.Shelf.Ren := ⟨fun | 170 => 110 | n => n, fun | 70 => 137 | 3 => 3 | 0 => 0 | 72 => 139 | 37 => 79 | 5 => 5 | n => n, fun | n => n⟩
def Tryd.lays169_ren : Go.Shelf.Ren := ⟨fun | 169 => 105 | n => n, fun | 70 => 137 | 9 => 9 | 0 => 0 | 72 => 139 | 37 => 79 | 127 => 183 | 3 => 3 | 5 => 5 | n => n, fun | n => n⟩
def Tryd.lays231_ren : Go.Shelf.Ren := ⟨fun | 231 => 66 | n => n, fun | 9 => 9 | 5 => 5 | 3 => 3 | 4 => 4 | n => n, fun | n => n⟩
def Tryd.lays232_ren : Go.Shelf.Ren := ⟨fun | 232 => 82 | n => n, fun | 9 => 9 | 5 => 5 | 3 => 3 | 4 => 4 | n => n, fun | n => n⟩
def Tryd.lays161_ren : Go.Shelf.Ren := ⟨fun | 161 => 37 | 231 => 66 | 227 => 67 | 233 => 68 | 235 => 69 | 228 => 119 | 197 => 120 | 151 => 121 | 260 => 155 | 152 => 156 | 137 => 127 | 119 => 175 | 224 => 159 | 225 => 158 | 217 => 157 | 266 => 176 | n => n, fun | 9 => 9 | 4 => 4 | 3 => 3 | 5 => 5 | 117 => 103 | 116 => 102 | 0 => 0 | 124 => 106 | 105 => 156 | 21 => 21 | 119 => 149 | 46 => 142 | 139 => 152 | 138 => 151 | n => n, fun | 3 => 1 | 4 => 2 | n => n⟩
theorem Tryd.lays161 : Go.Proofs.Lays.n161 Tryd.prog Tryd.lays161_ren := {
  mixed := by kernel_rfl
  f119 := Tryd.func175.trans (congrArg some (by kernel_rfl))
  f137 := Tryd.func127.trans (congrArg some (by kernel_rfl))
  f151 := Tryd.func121.trans (congrArg some (by kernel_rfl))
  f152 := Tryd.func156.trans (congrArg some (by kernel_rfl))
  f161 := Tryd.func37.trans (congrArg some (by kernel_rfl))
  f197 := Tryd.func120.trans (congrArg some (by kernel_rfl))
  f217 := Tryd.func157.trans (congrArg some (by kernel_rfl))
  f224 := Tryd.func159.trans (congrArg some (by kernel_rfl))
  f225 := Tryd.func158.trans (congrArg some (by kernel_rfl))
  f227 := Tryd.func67.trans (congrArg some (by kernel_rfl))
  f228 := Tryd.func119.trans (congrArg some (by kernel_rfl))
  f231 := Tryd.func66.trans (congrArg some (by kernel_rfl))
  f233 := Tryd.func68.trans (congrArg some (by kernel_rfl))
  f235 := Tryd.func69.trans (congrArg some (by kernel_rfl))
  f260 := Tryd.func155.trans (congrArg some (by kernel_rfl))
  f266 := Tryd.func176.trans (congrArg some (by kernel_rfl))
  t0 := Tryd.underlying0
  a0 := Tryd.isAgg0
  z0 := Tryd.sizeOf0
  v0 := Tryd.zeroValue0
  t3 := Tryd.underlying3
  a3 := Tryd.isAgg3
  z3 := Tryd.sizeOf3
  v3 := Tryd.zeroValue3
  t4 := Tryd.underlying4
  a4 := Tryd.isAgg4
  z4 := Tryd.sizeOf4
  v4 := Tryd.zeroValue4
  t5 := Tryd.underlying5
  a5 := Tryd.isAgg5
  z5 := Tryd.sizeOf5
  v5 := Tryd.zeroValue5
  t9 := Tryd.underlying9
  a9 := Tryd.isAgg9
  z9 := Tryd.sizeOf9
  v9 := Tryd.zeroValue9
  t21 := Tryd.underlying21
  a21 := Tryd.isAgg21
  z21 := Tryd.sizeOf21
  v21 := Tryd.zeroValue21
  t46 := Tryd.underlying142
  a46 := Tryd.isAgg142
  z46 := Tryd.sizeOf142
  v46 := Tryd.zeroValue142
  t105 := Tryd.underlying156
  a105 := Tryd.isAgg156
  z105 := Tryd.sizeOf156
  v105 := Tryd.zeroValue156
  t116 := Tryd.underlying102
  a116 := Tryd.isAgg102
  z116 := Tryd.sizeOf102
  t117 := Tryd.underlying103
  a117 := Tryd.isAgg103
  z117 := Tryd.sizeOf103
  v117 := Tryd.zeroValue103
  t119 := Tryd.underlying149
  a119 := Tryd.isAgg149
  z119 := Tryd.sizeOf149
  t124 := Tryd.underlying106
  a124 := Tryd.isAgg106
  z124 := Tryd.sizeOf106
  v124 := Tryd.zeroValue106
  t138 := Tryd.underlying151
  a138 := Tryd.isAgg151
  z138 := Tryd.sizeOf151
  v138 := Tryd.zeroValue151
  t139 := Tryd.underlying152
  a139 := Tryd.isAgg152
  z139 := Tryd.sizeOf152
  v139 := Tryd.zeroValue152
  g3 := by kernel_rfl
  g4 := by kernel_rfl }
def Tryd.lays162_ren : Go.Shelf.Ren := ⟨fun | 162 => 40 | 232 => 82 | 227 => 67 | 234 => 83 | 236 => 84 | 228 => 119 | 271 => 128 | 151 => 121 | 120 => 163 | 197 => 120 | 152 => 156 | 260 => 155 | 137 => 127 | 119 => 175 | 224 => 159 | 225 => 158 | 217 => 157 | 266 => 176 | n => n, fun | 9 => 9 | 4 => 4 | 3 => 3 | 5 => 5 | 117 => 103 | 116 => 102 | 0 => 0 | 124 => 106 | 21 => 21 | 105 => 156 | 46 => 142 | 119 => 149 | 139 => 152 | 138 => 151 | n => n, fun | 3 => 1 | 4 => 2 | n => n⟩
theorem Tryd.lays162 : Go.Proofs.Lays.n162 Tryd.prog Tryd.lays162_ren := {
  mixed := by kernel_rfl
  f119 := Tryd.func175.trans (congrArg some (by kernel_rfl))
  f120 := Tryd.func163.trans (congrArg some (by kernel_rfl))
  f137 := Tryd.func127.trans (congrArg some (by kernel_rfl))
  f151 := Tryd.func121.trans (congrArg some (by kernel_rfl))
  f152 := Tryd.func156.trans (congrArg some (by kernel_rfl))
  f162 := Tryd.func40.trans (congrArg some (by kernel_rfl))
  f197 := Tryd.func120.trans (congrArg some (by kernel_rfl))
  f217 := Tryd.func157.trans (congrArg some (by kernel_rfl))
  f224 := Tryd.func159.trans (congrArg some (by kernel_rfl))
  f225 := Tryd.func158.trans (congrArg some (by kernel_rfl))
  f227 := Tryd.func67.trans (congrArg some (by kernel_rfl))
  f228 := Tryd.func119.trans (congrArg some (by kernel_rfl))
  f232 := Tryd.func82.trans (congrArg some (by kernel_rfl))
  f234 := Tryd.func83.trans (congrArg some (by kernel_rfl))
  f236 := Tryd.func84.trans (congrArg some (by kernel_rfl))
  f260 := Tryd.func155.trans (congrArg some (by kernel_rfl))
  f266 := Tryd.func176.trans (congrArg some (by kernel_rfl))
  f271 := Tryd.func128.trans (congrArg some (by kernel_rfl))
  t0 := Tryd.underlying0
  a0 := Tryd.isAgg0
  z0 := Tryd.sizeOf0
  v0 := Tryd.zeroValue0
  t3 := Tryd.underlying3
  a3 := Tryd.isAgg3
  z3 := Tryd.sizeOf3
  v3 := Tryd.zeroValue3
  t4 := Tryd.underlying4
  a4 := Tryd.isAgg4
  z4 := Tryd.sizeOf4
  v4 := Tryd.zeroValue4
  t5 := Tryd.underlying5
  a5 := Tryd.isAgg5
  z5 := Tryd.sizeOf5
  v5 := Tryd.zeroValue5
  t9 := Tryd.underlying9
  a9 := Tryd.isAgg9
  z9 := Tryd.sizeOf9
  v9 := Tryd.zeroValue9
  t21 := Tryd.underlying21
  a21 := Tryd.isAgg21
  z21 := Tryd.sizeOf21
  v21 := Tryd.zeroValue21
  t46 := Tryd.underlying142
  a46 := Tryd.isAgg142
  z46 := Tryd.sizeOf142
  v46 := Tryd.zeroValue142
  t105 := Tryd.underlying156
  a105 := Tryd.isAgg156
  z105 := Tryd.sizeOf156
  v105 := Tryd.zeroValue156
  t116 := Tryd.underlying102
  a116 := Tryd.isAgg102
  z116 := Tryd.sizeOf102
  t117 := Tryd.underlying103
  a117 := Tryd.isAgg103
  z117 := Tryd.sizeOf103
  v117 := Tryd.zeroValue103
  t119 := Tryd.underlying149
  a119 := Tryd.isAgg149
  z119 := Tryd.sizeOf149
  t124 := Tryd.underlying106
  a124 := Tryd.isAgg106
  z124 := Tryd.sizeOf106
  v124 := Tryd.zeroValue106
  t138 := Tryd.underlying151
  a138 := Tryd.isAgg151
  z138 := Tryd.sizeOf151
  v138 := Tryd.zeroValue151
  t139 := Tryd.underlying152
  a139 := Tryd.isAgg152
  z139 := Tryd.sizeOf152
  v139 := Tryd.zeroValue152
  g3 := by kernel_rfl
  g4 := by kernel_rfl }
def Tryd.lays118_ren : Go.Shelf.Ren := ⟨fun | 118 => 151 | n => n, fun | 21 => 21 | 3 => 3 | 4 => 4 | n => n, fun | n => n⟩
theorem Tryd.lays118 : Go.Proofs.Lays.n118 Tryd.prog Tryd.lays118_ren := {
  mixed := by kernel_rfl
  f118 := Tryd.func151.trans (congrArg some (by kernel_rfl))
  t3 := Tryd.underlying3
  a3 := Tryd.isAgg3
  z3 := Tryd.sizeOf3
  v3 := Tryd.zeroValue3
  t4 := Tryd.underlying4
  a4 := Tryd.isAgg4
  z4 := Tryd.sizeOf4
  v4 := Tryd.zeroValue4
  t21 := Tryd.underlying21
  a21 := Tryd.isAgg21
  z21 := Tryd.sizeOf21
  v21 := Tryd.zeroValue21 }
/-- utf8.RuneLen: "RuneLen returns the number of bytes in the UTF-8 encoding of the rune. It returns -1 if the rune is not a valid value to encode in UTF-8.": IT RETURNS 'Lib.runeLen r'; the world is as it was. (LAID: no walk: one application.) -/
theorem Tryd.utf8_RuneLen (r : Int) (w : World) :
    Calls Tryd.prog 151 #[.int .i32 r] w fun e w' => e = .returned (.int .i64 (Lib.runeLen r)) ∧ w' = w := Any.utf8_RuneLen Tryd.lays118 r w
def Tryd.lays119_ren : Go.Shelf.Ren := ⟨fun | 119 => 175 | n => n, fun | 21 => 21 | 4 => 4 | n => n, fun | n => n⟩
def Tryd.lays120_ren : Go.Shelf.Ren := ⟨fun | 120 => 163 | n => n, fun | 5 => 5 | 4 => 4 | n => n, fun | n => n⟩
def Tryd.lays137_ren : Go.Shelf.Ren := ⟨fun | 137 => 127 | 217 => 157 | 266 => 176 | n => n, fun | 9 => 9 | 5 => 5 | 3 => 3 | n => n, fun | n => n⟩
theorem Tryd.lays137 : Go.Proofs.Lays.n137 Tryd.prog Tryd.lays137_ren := {
  mixed := by kernel_rfl
  f137 := Tryd.func127.trans (congrArg some (by kernel_rfl))
  f217 := Tryd.func157.trans (congrArg some (by kernel_rfl))
  f266 := Tryd.func176.trans (congrArg some (by kernel_rfl))
  t3 := Tryd.underlying3
  a3 := Tryd.isAgg3
  z3 := Tryd.sizeOf3
  v3 := Tryd.zeroValue3
  t5 := Tryd.underlying5
  a5 := Tryd.isAgg5
  z5 := Tryd.sizeOf5
  v5 := Tryd.zeroValue5
  t9 := Tryd.underlying9
  a9 := Tryd.isAgg9
  z9 := Tryd.sizeOf9
  v9 := Tryd.zeroValue9 }
open Go.RowKit in
/-- strings.IndexByte: "IndexByte returns the index of the first instance of c in s, or -1 if c is not present in s.": IT RETURNS 'Lib.indexByte s c'; the world is as it was. (LAID: no walk: one application.) -/
theorem Tryd.strings_IndexByte (s : ByteArray) (c : Int) (w : World) :
    Calls Tryd.prog 127 #[.string s, .int .u8 c] w fun e w' => e = .returned (.int .i64 (Lib.indexByte s.data.toList c.toNat.toUInt8)) ∧ w' = w := Any.strings_IndexByte Tryd.lays137 s c w
def Tryd.lays195_ren : Go.Shelf.Ren := ⟨fun | 195 => 70 | n => n, fun | 9 => 9 | 3 => 3 | 0 => 0 | 4 => 4 | n => n, fun | n => n⟩
def Tryd.lays217_ren : Go.Shelf.Ren := ⟨fun | 217 => 157 | 266 => 176 | n => n, fun | 9 => 9 | 5 => 5 | 3 => 3 | n => n, fun | n => n⟩
def Tryd.lays224_ren : Go.Shelf.Ren := ⟨fun | 224 => 159 | n => n, fun | 3 => 3 | n => n, fun | n => n⟩
def Tryd.lays314_ren : Go.Shelf.Ren := ⟨fun | 314 => 177 | n => n, fun | 9 => 9 | 51 => 185 | 3 => 3 | 4 => 4 | 5 => 5 | 46 => 142 | n => n, fun | n => n⟩
def Tryd.lays267_ren : Go.Shelf.Ren := ⟨fun | 267 => 160 | 314 => 177 | n => n, fun | 9 => 9 | 3 => 3 | 146 => 186 | 51 => 185 | 4 => 4 | 5 => 5 | 46 => 142 | n => n, fun | n => n⟩
def Tryd.lays219_ren : Go.Shelf.Ren := ⟨fun | 219 => 122 | 217 => 157 | 225 => 158 | 224 => 159 | 267 => 160 | 266 => 176 | 314 => 177 | n => n, fun | 9 => 9 | 3 => 3 | 4 => 4 | 5 => 5 | 46 => 142 | 146 => 186 | 51 => 185 | n => n, fun | 1 => 3 | n => n⟩
def Tryd.lays143_ren : Go.Shelf.Ren := ⟨fun | 143 => 72 | 219 => 122 | 217 => 157 | 225 => 158 | 224 => 159 | 267 => 160 | 266 => 176 | 314 => 177 | n => n, fun | 9 => 9 | 3 => 3 | 4 => 4 | 5 => 5 | 46 => 142 | 146 => 186 | 51 => 185 | n => n, fun | 1 => 3 | n => n⟩
def Tryd.lays220_ren : Go.Shelf.Ren := ⟨fun | 220 => 171 | 219 => 122 | 217 => 157 | 225 => 158 | 224 => 159 | 267 => 160 | 266 => 176 | 314 => 177 | n => n, fun | 9 => 9 | 4 => 4 | 3 => 3 | 5 => 5 | 46 => 142 | 146 => 186 | 51 => 185 | n => n, fun | 1 => 3 | n => n⟩
def Tryd.lays145_ren : Go.Shelf.Ren := ⟨fun | 145 => 145 | 220 => 171 | 219 => 122 | 217 => 157 | 225 => 158 | 224 => 159 | 267 => 160 | 266 => 176 | 314 => 177 | n => n, fun | 9 => 9 | 4 => 4 | 59 => 181 | 3 => 3 | 5 => 5 | 46 => 142 | 146 => 186 | 51 => 185 | n => n, fun | 1 => 3 | n => n⟩
def Tryd.lays138_ren : Go.Shelf.Ren := ⟨fun | 138 => 38 | 195 => 70 | 218 => 71 | 143 => 72 | 219 => 122 | 217 => 157 | 225 => 158 | 224 => 159 | 267 => 160 | 266 => 176 | 314 => 177 | n => n, fun | 9 => 9 | 3 => 3 | 4 => 4 | 5 => 5 | 0 => 0 | 46 => 142 | 146 => 186 | 51 => 185 | n => n, fun | 1 => 3 | n => n⟩
theorem Tryd.lays138 : Go.Proofs.Lays.n138 Tryd.prog Tryd.lays138_ren := {
  mixed := by kernel_rfl
  f138 := Tryd.func38.trans (congrArg some (by kernel_rfl))
  f143 := Tryd.func72.trans (congrArg some (by kernel_rfl))
  f195 := Tryd.func70.trans (congrArg some (by kernel_rfl))
  f217 := Tryd.func157.trans (congrArg some (by kernel_rfl))
  f218 := Tryd.func71.trans (congrArg some (by kernel_rfl))
  f219 := Tryd.func122.trans (congrArg some (by kernel_rfl))
  f224 := Tryd.func159.trans (congrArg some (by kernel_rfl))
  f225 := Tryd.func158.trans (congrArg some (by kernel_rfl))
  f266 := Tryd.func176.trans (congrArg some (by kernel_rfl))
  f267 := Tryd.func160.trans (congrArg some (by kernel_rfl))
  f314 := Tryd.func177.trans (congrArg some (by kernel_rfl))
  t0 := Tryd.underlying0
  a0 := Tryd.isAgg0
  z0 := Tryd.sizeOf0
  v0 := Tryd.zeroValue0
  t3 := Tryd.underlying3
  a3 := Tryd.isAgg3
  z3 := Tryd.sizeOf3
  v3 := Tryd.zeroValue3
  t4 := Tryd.underlying4
  a4 := Tryd.isAgg4
  z4 := Tryd.sizeOf4
  v4 := Tryd.zeroValue4
  t5 := Tryd.underlying5
  a5 := Tryd.isAgg5
  z5 := Tryd.sizeOf5
  v5 := Tryd.zeroValue5
  t9 := Tryd.underlying9
  a9 := Tryd.isAgg9
  z9 := Tryd.sizeOf9
  v9 := Tryd.zeroValue9
  t46 := Tryd.underlying142
  a46 := Tryd.isAgg142
  z46 := Tryd.sizeOf142
  v46 := Tryd.zeroValue142
  t51 := Tryd.underlying185
  a51 := Tryd.isAgg185
  z51 := Tryd.sizeOf185
  v51 := Tryd.zeroValue185
  t146 := Tryd.underlying186
  a146 := Tryd.isAgg186
  z146 := Tryd.sizeOf186
  v146 := Tryd.zeroValue186
  g1 := by kernel_rfl }
open Go.RowKit Go.Lib in
/-- strings.Count AT A substr OF ONE BYTE ('hp'): "Count counts the number of non-overlapping instances of substr in s.": IT RETURNS 'Lib.countByte s (that byte)'; the world is as it was. ✋ NO CONTRACT HERE YET at an empty substr (utf8.RuneCountInString) or at a longer one (a loop over strings.Index). (LAID: no walk: one application.) -/
theorem Tryd.strings_Count_one (s : ByteArray) (c : UInt8) (w : World) :
    Calls Tryd.prog 38 #[.string s, .string ⟨#[c]⟩] w fun e w' => e = .returned (.int .i64 (Lib.countByte s.data.toList c)) ∧ w' = w := Any.strings_Count_one Tryd.lays138 s c w
def Tryd.laysM219_ren : Go.Shelf.Ren := ⟨fun | 219 => 122 | 217 => 157 | 225 => 158 | 224 => 159 | 267 => 160 | 266 => 176 | 314 => 177 | n => n, fun | 9 => 9 | 3 => 3 | 4 => 4 | 5 => 5 | 46 => 142 | 146 => 186 | 51 => 185 | n => n, fun | 1 => 3 | n => n⟩
def Tryd.laysM143_ren : Go.Shelf.Ren := ⟨fun | 143 => 72 | 219 => 122 | 217 => 157 | 225 => 158 | 224 => 159 | 267 => 160 | 266 => 176 | 314 => 177 | n => n, fun | 9 => 9 | 3 => 3 | 4 => 4 | 5 => 5 | 46 => 142 | 146 => 186 | 51 => 185 | n => n, fun | 1 => 3 | n => n⟩
def Tryd.laysM220_ren : Go.Shelf.Ren := ⟨fun | 220 => 171 | 219 => 122 | 217 => 157 | 225 => 158 | 224 => 159 | 267 => 160 | 266 => 176 | 314 => 177 | n => n, fun | 9 => 9 | 4 => 4 | 3 => 3 | 5 => 5 | 46 => 142 | 146 => 186 | 51 => 185 | n => n, fun | 1 => 3 | n => n⟩
def Tryd.laysM145_ren : Go.Shelf.Ren := ⟨fun | 145 => 145 | 220 => 171 | 219 => 122 | 217 => 157 | 225 => 158 | 224 => 159 | 267 => 160 | 266 => 176 | 314 => 177 | n => n, fun | 9 => 9 | 4 => 4 | 59 => 181 | 3 => 3 | 5 => 5 | 46 => 142 | 146 => 186 | 51 => 185 | n => n, fun | 1 => 3 | n => n⟩
def Tryd.laysM138_ren : Go.Shelf.Ren := ⟨fun | 138 => 38 | 195 => 70 | 218 => 71 | 143 => 72 | 219 => 122 | 217 => 157 | 225 => 158 | 224 => 159 | 267 => 160 | 266 => 176 | 314 => 177 | n => n, fun | 9 => 9 | 3 => 3 | 4 => 4 | 5 => 5 | 0 => 0 | 46 => 142 | 146 => 186 | 51 => 185 | n => n, fun | 1 => 3 | n => n⟩
def Tryd.lays222_ren : Go.Shelf.Ren := ⟨fun | 222 => 89 | n => n, fun | 9 => 9 | 5 => 5 | 3 => 3 | 4 => 4 | n => n, fun | n => n⟩
def Tryd.lays149_ren : Go.Shelf.Ren := ⟨fun | 149 => 45 | 222 => 89 | n => n, fun | 9 => 9 | 5 => 5 | 3 => 3 | 4 => 4 | n => n, fun | n => n⟩
theorem Tryd.lays149 : Go.Proofs.Lays.n149 Tryd.prog Tryd.lays149_ren := {
  mixed := by kernel_rfl
  f149 := Tryd.func45.trans (congrArg some (by kernel_rfl))
  f222 := Tryd.func89.trans (congrArg some (by kernel_rfl))
  t3 := Tryd.underlying3
  a3 := Tryd.isAgg3
  z3 := Tryd.sizeOf3
  v3 := Tryd.zeroValue3
  t4 := Tryd.underlying4
  a4 := Tryd.isAgg4
  z4 := Tryd.sizeOf4
  v4 := Tryd.zeroValue4
  t5 := Tryd.underlying5
  a5 := Tryd.isAgg5
  z5 := Tryd.sizeOf5
  v5 := Tryd.zeroValue5
  t9 := Tryd.underlying9
  a9 := Tryd.isAgg9
  z9 := Tryd.sizeOf9
  v9 := Tryd.zeroValue9 }
open Go.RowKit Go.Lib in
/-- strings.LastIndexByte: "LastIndexByte returns the index of the last instance of c in s, or -1 if c is not present in s." (LAID: no walk: one application.) -/
theorem Tryd.strings_LastIndexByte (s : ByteArray) (c : Int) (hs : s.size < 4611686018427387904) (w : World) :
    Calls Tryd.prog 45 #[.string s, .int .u8 c] w fun e w' => e = .returned (.int .i64 (Lib.lastIndexByte s c)) ∧ w' = w := Any.strings_LastIndexByte Tryd.lays149 s c hs w
def Tryd.lays206_ren : Go.Shelf.Ren := ⟨fun | 206 => 126 | n => n, fun | 9 => 9 | 4 => 4 | 3 => 3 | n => n, fun | n => n⟩
def Tryd.lays99_ren : Go.Shelf.Ren := ⟨fun | 99 => 79 | 206 => 126 | n => n, fun | 9 => 9 | 4 => 4 | 3 => 3 | n => n, fun | n => n⟩
theorem Tryd.lays99 : Go.Proofs.Lays.n99 Tryd.prog Tryd.lays99_ren := {
  mixed := by kernel_rfl
  f99 := Tryd.func79.trans (congrArg some (by kernel_rfl))
  f206 := Tryd.func126.trans (congrArg some (by kernel_rfl))
  t3 := Tryd.underlying3
  a3 := Tryd.isAgg3
  z3 := Tryd.sizeOf3
  v3 := Tryd.zeroValue3
  t4 := Tryd.underlying4
  a4 := Tryd.isAgg4
  z4 := Tryd.sizeOf4
  v4 := Tryd.zeroValue4
  t9 := Tryd.underlying9
  a9 := Tryd.isAgg9
  z9 := Tryd.sizeOf9
  v9 := Tryd.zeroValue9 }
open Go.RowKit Go.Lib in
/-- strings.HasPrefix: "HasPrefix reports whether the string s begins with prefix.": IT RETURNS 'Lib.hasPrefix s prefix'; the world is as it was. (LAID: no walk: one application.) -/
theorem Tryd.strings_HasPrefix (s p : ByteArray) (w : World) :
    Calls Tryd.prog 79 #[.string s, .string p] w fun e w' => e = .returned (.bool (Lib.hasPrefix s.data.toList p.data.toList)) ∧ w' = w := Any.strings_HasPrefix Tryd.lays99 s p w
def Tryd.lays197_ren : Go.Shelf.Ren := ⟨fun | 197 => 120 | 260 => 155 | n => n, fun | 9 => 9 | 21 => 21 | 3 => 3 | 4 => 4 | 5 => 5 | 105 => 156 | 119 => 149 | 0 => 0 | 46 => 142 | 139 => 152 | 138 => 151 | n => n, fun | 3 => 1 | 4 => 2 | n => n⟩
def Tryd.lays152_ren : Go.Shelf.Ren := ⟨fun | 152 => 156 | 137 => 127 | 119 => 175 | 224 => 159 | 225 => 158 | 217 => 157 | 266 => 176 | n => n, fun | 9 => 9 | 21 => 21 | 3 => 3 | 4 => 4 | 5 => 5 | 0 => 0 | 46 => 142 | n => n, fun | n => n⟩
def Tryd.lays151_ren : Go.Shelf.Ren := ⟨fun | 151 => 121 | 152 => 156 | 137 => 127 | 119 => 175 | 224 => 159 | 225 => 158 | 217 => 157 | 266 => 176 | n => n, fun | 9 => 9 | 21 => 21 | 4 => 4 | 3 => 3 | 5 => 5 | 0 => 0 | 46 => 142 | n => n, fun | n => n⟩
def Tryd.lays227_ren : Go.Shelf.Ren := ⟨fun | 227 => 67 | n => n, fun | 9 => 9 | 116 => 102 | 4 => 4 | 0 => 0 | 3 => 3 | 5 => 5 | n => n, fun | n => n⟩
def Tryd.lays228_ren : Go.Shelf.Ren := ⟨fun | 228 => 119 | n => n, fun | 124 => 106 | 5 => 5 | 4 => 4 | 0 => 0 | 116 => 102 | n => n, fun | n => n⟩
def Tryd.lays264_ren : Go.Shelf.Ren := ⟨fun | 264 => 149 | n => n, fun | 53 => 188 | 46 => 142 | n => n, fun | n => n⟩
def Tryd.lays212_ren : Go.Shelf.Ren := ⟨fun | 212 => 107 | 263 => 148 | 264 => 149 | n => n, fun | 46 => 142 | 51 => 185 | 146 => 186 | 53 => 188 | 148 => 189 | n => n, fun | n => n⟩
def Tryd.lays260_ren : Go.Shelf.Ren := ⟨fun | 260 => 155 | n => n, fun | 9 => 9 | 21 => 21 | 3 => 3 | 4 => 4 | 5 => 5 | 119 => 149 | 0 => 0 | 46 => 142 | 139 => 152 | 138 => 151 | n => n, fun | 3 => 1 | 4 => 2 | n => n⟩
def Tryd.lays271_ren : Go.Shelf.Ren := ⟨fun | 271 => 128 | 120 => 163 | 197 => 120 | 260 => 155 | n => n, fun | 9 => 9 | 21 => 21 | 3 => 3 | 4 => 4 | 5 => 5 | 105 => 156 | 119 => 149 | 0 => 0 | 46 => 142 | 139 => 152 | 138 => 151 | n => n, fun | 3 => 1 | 4 => 2 | n => n⟩
def Tryd.lays109_ren : Go.Shelf.Ren := ⟨fun | 109 => 178 | n => n, fun | 31 => 42 | 9 => 9 | 3 => 3 | 0 => 0 | 4 => 4 | n => n, fun | n => n⟩
def Tryd.lays110_ren : Go.Shelf.Ren := ⟨fun | 110 => 161 | 109 => 178 | n => n, fun | 31 => 42 | 9 => 9 | 4 => 4 | 3 => 3 | 0 => 0 | n => n, fun | n => n⟩
theorem Tryd.lays110 : Go.Proofs.Lays.n110 Tryd.prog Tryd.lays110_ren := {
  mixed := by kernel_rfl
  f109 := Tryd.func178.trans (congrArg some (by kernel_rfl))
  f110 := Tryd.func161.trans (congrArg some (by kernel_rfl))
  t0 := Tryd.underlying0
  a0 := Tryd.isAgg0
  z0 := Tryd.sizeOf0
  v0 := Tryd.zeroValue0
  t3 := Tryd.underlying3
  a3 := Tryd.isAgg3
  z3 := Tryd.sizeOf3
  v3 := Tryd.zeroValue3
  t4 := Tryd.underlying4
  a4 := Tryd.isAgg4
  z4 := Tryd.sizeOf4
  v4 := Tryd.zeroValue4
  t9 := Tryd.underlying9
  a9 := Tryd.isAgg9
  z9 := Tryd.sizeOf9
  v9 := Tryd.zeroValue9
  t31 := Tryd.underlying42
  a31 := Tryd.isAgg42
  z31 := Tryd.sizeOf42
  v31 := Tryd.zeroValue42 }
open Go.Lib in
/-- slices.Contains at []string: "Contains reports whether v is present in s.": IT RETURNS 'Lib.containsS (the elements) v', which is true just where v is among them ('Lib.containsS_iff'); the world is as it was. ITS CALLEE slices.Index IS MET BY ITS OWN CONTRACT OFF THE SHELF (lay that first): no loop is walked here. (LAID: no walk: one application.) -/
theorem Tryd.slices_Contains_string (b off n c : Nat) (zs : List ByteArray) (x : ByteArray) (w : World) (hz : n ≤ zs.length) (hbig : n ≤ 9223372036854775807) (hc : ∀ j, j < zs.length → w.cell? ⟨b, off + j, none⟩ = some (.string (zs.getD j ByteArray.empty))) :
    Calls Tryd.prog 161 #[.slice (some ⟨b, off, none⟩) n c, .string x] w fun e w' => e = .returned (.bool (Lib.containsS (zs.take n) x)) ∧ w' = w := Any.slices_Contains_string Tryd.lays110 b off n c zs x w hz hbig hc
def Tryd.laysPa45_ren : Go.Shelf.Ren := ⟨fun | 45 => 89 | n => n, fun | 9 => 9 | 5 => 5 | 3 => 3 | 4 => 4 | n => n, fun | n => n⟩
end Go.Proofs
