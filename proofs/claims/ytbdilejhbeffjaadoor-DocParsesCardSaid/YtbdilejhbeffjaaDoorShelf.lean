/-
  DERIVED: THE SHELF's CONTRACTS AT THIS DUMP, IN PLAIN WORDS (tools/lay-plain.mjs out of 'TrydShelf.lean', which tools/lay-shelf.mjs wrote): THE SAME DECLARATIONS UNDER THE SAME NAMES: 'import', 'namespace', 'open', 'def', 'theorem' AND NOTHING ELSE: no command of the shelf's: FOR A HAND-IN. Each laying: the table of numbers ('.._ren') and one theorem, a field a fact of the dump's own or the kernel's comparison; each contract: ONE APPLICATION.
-/
import Derived.Shelf.Strings.Builder1
import Derived.Shelf.Strings.Builder2
import Derived.Shelf.Small.Strs
import Derived.Shelf.Strings.BuilderF
import Derived.Shelf.Strings.BuilderK
import Derived.Shelf.Strings.Builder2Cap
import Derived.Shelf.Strconv.Atoi
import Derived.Shelf.Strconv.Itoa0
import Derived.Shelf.Strconv.Itoa1
import Derived.Shelf.LaysM
import Derived.Shelf.Strconv.Itoa2
import Derived.Shelf.Strconv.Itoa3
import Derived.Shelf.Strconv.AtoiErrFast
import Derived.Shelf.Strconv.ParseIntEmpty
import Derived.Shelf.Strconv.AtoiFail
import Derived.Shelf.Strconv.Clone
import Derived.Shelf.Strconv.SyntaxError
import Derived.Shelf.LaysC
import Derived.Shelf.Strconv.ToError
import Derived.Shelf.Strconv.AtoiErr
import Derived.Shelf.Strconv.ErrVar
import Derived.Shelf.Strconv.Lower
import Derived.Shelf.Strconv.ParseUint10
import Derived.Shelf.Strconv.ParseUint10Empty
import Derived.Shelf.Strconv.ParseUint10Any
import Derived.Shelf.Strconv.ParseInt10
import Derived.Shelf.Strconv.AtoiLong
import Derived.Shelf.Strconv.AtoiInnerAll
import Derived.Shelf.Strconv.RangeError
import Derived.Shelf.Strconv.ToErrorRange
import Derived.Shelf.Strconv.AtoiAll
import Derived.Shelf.Strconv.ErrVarAll
import Derived.Shelf.Strings.Search1
import Derived.Shelf.Strings.Search2
import Derived.Shelf.Strings.Search3
import Derived.Shelf.Strings.Cut
import Derived.Shelf.Strings.Shaped
import Derived.Shelf.Strings.LastIndex
import Derived.Shelf.Strings.Prefix
import Derived.Shelf.Bits.Mul64
import Derived.Shelf.Strings.Repeat
import Derived.Shelf.Strings.BuilderCap
import Derived.Ground.PaProg
import Derived.Shelf.Path.Small
import Derived.Test.YtbdilejhbeffjaaDoorProg
namespace Go.Proofs
open Go.Shelf
def Tryd.lays170_ren : Go.Shelf.Ren := ⟨fun | 170 => 44 | n => n, fun | 70 => 72 | 3 => 3 | 0 => 0 | 72 => 74 | 37 => 39 | 5 => 5 | n => n, fun | n => n⟩
theorem Tryd.lays170 : Go.Proofs.Lays.n170 Tryd.prog Tryd.lays170_ren := {
  mixed := by kernel_rfl
  f170 := Tryd.func44.trans (congrArg some (by kernel_rfl))
  t0 := Tryd.underlying0
  a0 := Tryd.isAgg0
  z0 := Tryd.sizeOf0
  v0 := Tryd.zeroValue0
  t3 := Tryd.underlying3
  a3 := Tryd.isAgg3
  z3 := Tryd.sizeOf3
  v3 := Tryd.zeroValue3
  t37 := Tryd.underlying39
  a37 := Tryd.isAgg39
  z37 := Tryd.sizeOf39
  v37 := Tryd.zeroValue39
  t70 := Tryd.underlying72
  a70 := Tryd.isAgg72
  z70 := Tryd.sizeOf72
  v70 := Tryd.zeroValue72
  t72 := Tryd.underlying74
  a72 := Tryd.isAgg74
  z72 := Tryd.sizeOf74
  v72 := Tryd.zeroValue74 }
def Tryd.lays169_ren : Go.Shelf.Ren := ⟨fun | 169 => 46 | n => n, fun | 70 => 72 | 9 => 9 | 0 => 0 | 72 => 74 | 37 => 39 | 127 => 116 | 3 => 3 | 5 => 5 | n => n, fun | n => n⟩
theorem Tryd.lays169 : Go.Proofs.Lays.n169 Tryd.prog Tryd.lays169_ren := {
  mixed := by kernel_rfl
  f169 := Tryd.func46.trans (congrArg some (by kernel_rfl))
  t0 := Tryd.underlying0
  a0 := Tryd.isAgg0
  z0 := Tryd.sizeOf0
  v0 := Tryd.zeroValue0
  t3 := Tryd.underlying3
  a3 := Tryd.isAgg3
  z3 := Tryd.sizeOf3
  v3 := Tryd.zeroValue3
  t9 := Tryd.underlying9
  a9 := Tryd.isAgg9
  z9 := Tryd.sizeOf9
  v9 := Tryd.zeroValue9
  t37 := Tryd.underlying39
  a37 := Tryd.isAgg39
  z37 := Tryd.sizeOf39
  v37 := Tryd.zeroValue39
  t70 := Tryd.underlying72
  a70 := Tryd.isAgg72
  z70 := Tryd.sizeOf72
  v70 := Tryd.zeroValue72
  t72 := Tryd.underlying74
  a72 := Tryd.isAgg74
  z72 := Tryd.sizeOf74
  v72 := Tryd.zeroValue74
  t127 := Tryd.underlying116
  a127 := Tryd.isAgg116
  z127 := Tryd.sizeOf116
  v127 := Tryd.zeroValue116 }
theorem Tryd.Builder_Extra_169 : Builder.Extra Tryd.prog Tryd.lays169_ren := {
  sizeBuilder := by kernel_rfl
  liesBuilder := by kernel_rfl
  t5 := Tryd.underlying5
  a5 := Tryd.isAgg5
  z5 := Tryd.sizeOf5
  v5 := Tryd.zeroValue5
  infoByte := by kernel_rfl
  cellsByte := by kernel_rfl
  sizeByte := by kernel_rfl
  neB5 := by decide }
def Tryd.lays241_ren : Go.Shelf.Ren := ⟨fun | 241 => 123 | 277 => 133 | n => n, fun | 70 => 72 | 3 => 3 | 0 => 0 | 72 => 74 | 37 => 39 | 5 => 5 | n => n, fun | n => n⟩
def Tryd.lays165_ren : Go.Shelf.Ren := ⟨fun | 165 => 107 | 240 => 94 | 241 => 123 | 276 => 109 | 277 => 133 | n => n, fun | 70 => 72 | 3 => 3 | 0 => 0 | 4 => 4 | 9 => 9 | 20 => 20 | 72 => 74 | 37 => 39 | 164 => 143 | 5 => 5 | n => n, fun | n => n⟩
def Tryd.lays137_ren : Go.Shelf.Ren := ⟨fun | 137 => 98 | 217 => 111 | 266 => 128 | n => n, fun | 9 => 9 | 5 => 5 | 3 => 3 | n => n, fun | n => n⟩
theorem Tryd.lays137 : Go.Proofs.Lays.n137 Tryd.prog Tryd.lays137_ren := {
  mixed := by kernel_rfl
  f137 := Tryd.func98.trans (congrArg some (by kernel_rfl))
  f217 := Tryd.func111.trans (congrArg some (by kernel_rfl))
  f266 := Tryd.func128.trans (congrArg some (by kernel_rfl))
  t3 := Tryd.underlying3
  a3 := Tryd.isAgg3
  z3 := Tryd.sizeOf3
  v3 := Tryd.zeroValue3
  t5 := Tryd.underlying5
  a5 := Tryd.isAgg5
  z5 := Tryd.sizeOf5
  v5 := Tryd.zeroValue5
  t9 := Tryd.underlying9
  a9 := Tryd.isAgg9
  z9 := Tryd.sizeOf9
  v9 := Tryd.zeroValue9 }
open Go.RowKit in
/-- strings.IndexByte: "IndexByte returns the index of the first instance of c in s, or -1 if c is not present in s.": IT RETURNS 'Lib.indexByte s c'; the world is as it was. (LAID: no walk: one application.) -/
theorem Tryd.strings_IndexByte (s : ByteArray) (c : Int) (w : World) :
    Calls Tryd.prog 98 #[.string s, .int .u8 c] w fun e w' => e = .returned (.int .i64 (Lib.indexByte s.data.toList c.toNat.toUInt8)) ∧ w' = w := Any.strings_IndexByte Tryd.lays137 s c w
open Go.RowKit in
/-- (*strings.Builder).Len: "Len returns the number of accumulated bytes; b.Len() == len(b.String()).": the world is as it was. (THE FORM '_f': 'Lib.IsBuilderF'.) (LAID: no walk: one application.) -/
theorem Tryd.Builder_Len_f (B b : Nat) (bs : List Value) (w : World) (h : Lib.IsBuilderF 74 5 B b bs w) :
    Calls Tryd.prog 44 #[.pointer (some ⟨b, 0, none⟩)] w fun e w' => e = .returned (.int .i64 bs.length) ∧ w' = w := Any.Builder_Len_f Tryd.lays170 B b bs w h
open Go.RowKit in
/-- (*strings.Builder).String: "String returns the accumulated string.": WHATEVER THE BUILDER HOLDS; THE FORM '_k': OVER 'Lib.IsBuilderF' (a builder that 'String()' may have read), AND WITH THE FRAME THAT REACHES ABOVE THE BUILDER: 'Lib.OthersKept': every block that is not b and is no row of uint8's stands as it stood: the iterator of a range among them. (LAID: no walk: one application.) -/
theorem Tryd.Builder_String_any_k (B b : Nat) (l : List UInt8) (w : World) (h : Lib.IsBuilderF 74 5 B b (Lib.byteCells l) w) (hBw : B ≤ w.heap.size) :
    Calls Tryd.prog 46 #[.pointer (some ⟨b, 0, none⟩)] w fun e w' => e = .returned (.string ⟨l.toArray⟩) ∧ (Lib.IsBuilderF 74 5 B b (Lib.byteCells l) w' ∧ Below B w w' ∧ Lib.OthersKept 5 (some b) w w') := Any.Builder_String_any_k Tryd.lays169 Tryd.Builder_Extra_169 B b l w h hBw
def Tryd.lays244_ren : Go.Shelf.Ren := ⟨fun | 244 => 99 | 247 => 115 | 287 => 130 | 321 => 139 | 322 => 140 | n => n, fun | 9 => 9 | 3 => 3 | 75 => 109 | 4 => 4 | 5 => 5 | 167 => 146 | 37 => 39 | 0 => 0 | 85 => 147 | 2 => 2 | 53 => 155 | 175 => 164 | 46 => 114 | 21 => 21 | 80 => 67 | n => n, fun | n => n⟩
def Tryd.lays172_ren : Go.Shelf.Ren := ⟨fun | 172 => 78 | 244 => 99 | 245 => 100 | 247 => 115 | 279 => 116 | 280 => 117 | 281 => 118 | 282 => 119 | 287 => 130 | 316 => 131 | 171 => 72 | 205 => 132 | 321 => 139 | 322 => 140 | 243 => 95 | 246 => 110 | 283 => 124 | 284 => 125 | 285 => 126 | 286 => 127 | 129 => 135 | 317 => 134 | 318 => 136 | 319 => 137 | 320 => 138 | 337 => 141 | 338 => 142 | n => n, fun | 9 => 9 | 3 => 3 | 75 => 109 | 76 => 110 | 4 => 4 | 5 => 5 | 167 => 146 | 37 => 39 | 0 => 0 | 85 => 147 | 2 => 2 | 168 => 149 | 53 => 155 | 175 => 164 | 46 => 114 | 210 => 167 | 127 => 116 | 145 => 178 | 143 => 176 | 21 => 21 | 171 => 158 | 173 => 161 | 212 => 171 | 51 => 152 | 20 => 20 | 213 => 172 | 232 => 180 | 233 => 181 | 80 => 67 | n => n, fun | 15 => 4 | 16 => 5 | 17 => 6 | 18 => 7 | 19 => 8 | n => n⟩
def Tryd.lays129_ren : Go.Shelf.Ren := ⟨fun | 129 => 135 | n => n, fun | 53 => 155 | 3 => 3 | 4 => 4 | 46 => 114 | 5 => 5 | 9 => 9 | n => n, fun | n => n⟩
def Tryd.lays317_ren : Go.Shelf.Ren := ⟨fun | 317 => 134 | n => n, fun | 3 => 3 | 46 => 114 | n => n, fun | n => n⟩
def Tryd.lays318_ren : Go.Shelf.Ren := ⟨fun | 318 => 136 | n => n, fun | 3 => 3 | 4 => 4 | n => n, fun | n => n⟩
def Tryd.lays283_ren : Go.Shelf.Ren := ⟨fun | 283 => 124 | n => n, fun | 3 => 3 | 9 => 9 | 4 => 4 | n => n, fun | n => n⟩
def Tryd.laysM284_ren : Go.Shelf.Ren := ⟨fun | 284 => 125 | 129 => 135 | 317 => 134 | 318 => 136 | n => n, fun | 53 => 155 | 3 => 3 | 212 => 171 | 0 => 0 | 4 => 4 | 46 => 114 | 5 => 5 | 9 => 9 | n => n, fun | 17 => 6 | n => n⟩
def Tryd.lays285_ren : Go.Shelf.Ren := ⟨fun | 285 => 126 | n => n, fun | 37 => 39 | 53 => 155 | 3 => 3 | 4 => 4 | 51 => 152 | 9 => 9 | 5 => 5 | 0 => 0 | n => n, fun | n => n⟩
def Tryd.laysM246_ren : Go.Shelf.Ren := ⟨fun | 246 => 110 | 283 => 124 | 284 => 125 | 285 => 126 | 286 => 127 | 129 => 135 | 317 => 134 | 318 => 136 | 319 => 137 | 320 => 138 | 337 => 141 | 338 => 142 | n => n, fun | 2 => 2 | 3 => 3 | 9 => 9 | 4 => 4 | 171 => 158 | 0 => 0 | 53 => 155 | 37 => 39 | 5 => 5 | 173 => 161 | 212 => 171 | 51 => 152 | 20 => 20 | 213 => 172 | 46 => 114 | 232 => 180 | 233 => 181 | n => n, fun | 17 => 6 | 18 => 7 | 19 => 8 | n => n⟩
def Tryd.lays246_ren : Go.Shelf.Ren := ⟨fun | 246 => 110 | 283 => 124 | 284 => 125 | 285 => 126 | 286 => 127 | 129 => 135 | 317 => 134 | 318 => 136 | 319 => 137 | 320 => 138 | 337 => 141 | 338 => 142 | n => n, fun | 2 => 2 | 3 => 3 | 9 => 9 | 4 => 4 | 171 => 158 | 0 => 0 | 53 => 155 | 37 => 39 | 5 => 5 | 173 => 161 | 212 => 171 | 51 => 152 | 20 => 20 | 213 => 172 | 46 => 114 | 232 => 180 | 233 => 181 | n => n, fun | 17 => 6 | 18 => 7 | 19 => 8 | n => n⟩
def Tryd.laysM243_ren : Go.Shelf.Ren := ⟨fun | 243 => 95 | 246 => 110 | 283 => 124 | 284 => 125 | 285 => 126 | 286 => 127 | 129 => 135 | 317 => 134 | 318 => 136 | 319 => 137 | 320 => 138 | 337 => 141 | 338 => 142 | n => n, fun | 3 => 3 | 9 => 9 | 2 => 2 | 4 => 4 | 171 => 158 | 0 => 0 | 53 => 155 | 37 => 39 | 5 => 5 | 173 => 161 | 212 => 171 | 51 => 152 | 20 => 20 | 213 => 172 | 46 => 114 | 232 => 180 | 233 => 181 | n => n, fun | 17 => 6 | 18 => 7 | 19 => 8 | n => n⟩
def Tryd.lays243_ren : Go.Shelf.Ren := ⟨fun | 243 => 95 | 246 => 110 | 283 => 124 | 284 => 125 | 285 => 126 | 286 => 127 | 129 => 135 | 317 => 134 | 318 => 136 | 319 => 137 | 320 => 138 | 337 => 141 | 338 => 142 | n => n, fun | 3 => 3 | 9 => 9 | 2 => 2 | 4 => 4 | 171 => 158 | 0 => 0 | 53 => 155 | 37 => 39 | 5 => 5 | 173 => 161 | 212 => 171 | 51 => 152 | 20 => 20 | 213 => 172 | 46 => 114 | 232 => 180 | 233 => 181 | n => n, fun | 17 => 6 | 18 => 7 | 19 => 8 | n => n⟩
def Tryd.laysM171_ren : Go.Shelf.Ren := ⟨fun | 171 => 72 | 243 => 95 | 246 => 110 | 283 => 124 | 284 => 125 | 285 => 126 | 286 => 127 | 129 => 135 | 317 => 134 | 318 => 136 | 319 => 137 | 320 => 138 | 337 => 141 | 338 => 142 | n => n, fun | 3 => 3 | 9 => 9 | 2 => 2 | 4 => 4 | 171 => 158 | 0 => 0 | 53 => 155 | 37 => 39 | 5 => 5 | 173 => 161 | 212 => 171 | 51 => 152 | 20 => 20 | 213 => 172 | 46 => 114 | 232 => 180 | 233 => 181 | n => n, fun | 17 => 6 | 18 => 7 | 19 => 8 | n => n⟩
theorem Tryd.laysM171 : Go.Proofs.LaysM.n171 Tryd.prog Tryd.laysM171_ren := {
  mixed := by kernel_rfl
  f129 := Tryd.func135.trans (congrArg some (by kernel_rfl))
  f171 := Tryd.func72.trans (congrArg some (by kernel_rfl))
  f243 := Tryd.func95.trans (congrArg some (by kernel_rfl))
  f246 := Tryd.func110.trans (congrArg some (by kernel_rfl))
  f283 := Tryd.func124.trans (congrArg some (by kernel_rfl))
  f284 := Tryd.func125.trans (congrArg some (by kernel_rfl))
  f285 := Tryd.func126.trans (congrArg some (by kernel_rfl))
  f286 := Tryd.func127.trans (congrArg some (by kernel_rfl))
  f317 := Tryd.func134.trans (congrArg some (by kernel_rfl))
  f318 := Tryd.func136.trans (congrArg some (by kernel_rfl))
  f319 := Tryd.func137.trans (congrArg some (by kernel_rfl))
  f320 := Tryd.func138.trans (congrArg some (by kernel_rfl))
  f337 := Tryd.func141.trans (congrArg some (by kernel_rfl))
  f338 := Tryd.func142.trans (congrArg some (by kernel_rfl))
  t0 := Tryd.underlying0
  a0 := Tryd.isAgg0
  z0 := Tryd.sizeOf0
  v0 := Tryd.zeroValue0
  t2 := Tryd.underlying2
  a2 := Tryd.isAgg2
  z2 := Tryd.sizeOf2
  v2 := Tryd.zeroValue2
  t3 := Tryd.underlying3
  a3 := Tryd.isAgg3
  z3 := Tryd.sizeOf3
  v3 := Tryd.zeroValue3
  t4 := Tryd.underlying4
  a4 := Tryd.isAgg4
  z4 := Tryd.sizeOf4
  v4 := Tryd.zeroValue4
  t5 := Tryd.underlying5
  a5 := Tryd.isAgg5
  z5 := Tryd.sizeOf5
  v5 := Tryd.zeroValue5
  t9 := Tryd.underlying9
  a9 := Tryd.isAgg9
  z9 := Tryd.sizeOf9
  v9 := Tryd.zeroValue9
  t20 := Tryd.underlying20
  a20 := Tryd.isAgg20
  z20 := Tryd.sizeOf20
  v20 := Tryd.zeroValue20
  t37 := Tryd.underlying39
  a37 := Tryd.isAgg39
  z37 := Tryd.sizeOf39
  v37 := Tryd.zeroValue39
  t46 := Tryd.underlying114
  a46 := Tryd.isAgg114
  z46 := Tryd.sizeOf114
  v46 := Tryd.zeroValue114
  t51 := Tryd.underlying152
  a51 := Tryd.isAgg152
  z51 := Tryd.sizeOf152
  v51 := Tryd.zeroValue152
  t53 := Tryd.underlying155
  a53 := Tryd.isAgg155
  z53 := Tryd.sizeOf155
  v53 := Tryd.zeroValue155
  t171 := Tryd.underlying158
  a171 := Tryd.isAgg158
  z171 := Tryd.sizeOf158
  v171 := Tryd.zeroValue158
  t173 := Tryd.underlying161
  a173 := Tryd.isAgg161
  z173 := Tryd.sizeOf161
  v173 := Tryd.zeroValue161
  t212 := Tryd.underlying171
  a212 := Tryd.isAgg171
  z212 := Tryd.sizeOf171
  v212 := Tryd.zeroValue171
  t213 := Tryd.underlying172
  a213 := Tryd.isAgg172
  z213 := Tryd.sizeOf172
  t232 := Tryd.underlying180
  a232 := Tryd.isAgg180
  z232 := Tryd.sizeOf180
  v232 := Tryd.zeroValue180
  t233 := Tryd.underlying181
  a233 := Tryd.isAgg181
  z233 := Tryd.sizeOf181
  v233 := Tryd.zeroValue181
  g17 := by kernel_rfl
  g18 := by kernel_rfl
  g19 := by kernel_rfl
  i0 := by kernel_rfl
  i2 := by kernel_rfl
  i3 := by kernel_rfl
  i4 := by kernel_rfl
  i5 := by kernel_rfl
  i9 := by kernel_rfl
  i20 := by kernel_rfl
  i37 := by kernel_rfl
  i46 := by kernel_rfl
  i51 := by kernel_rfl
  i53 := by kernel_rfl
  i171 := by kernel_rfl
  i173 := by kernel_rfl
  i212 := by kernel_rfl
  i232 := by kernel_rfl
  i233 := by kernel_rfl
  m17 := by kernel_rfl
  m18 := by kernel_rfl
  m19 := by kernel_rfl }
open Go.RowKit Go.Sort Go.Lib in
/-- strconv.Itoa: "Itoa is equivalent to FormatInt(int64(i), 10).": i's DECIMAL NUMERAL ('Lib.itoa': a '-' where i is negative, then the digits), FOR EVERY int. The world behind the call: the world before it, new blocks behind the heap (the library's 'var a [24]byte'), draws. (LAID: no walk: one application.) -/
theorem Tryd.strconv_Itoa (n : Int) (h0 : -9223372036854775808 ≤ n) (h1 : n ≤ 9223372036854775807) (w : World) (htab : Lib.TabIs Tryd.prog w "internal/strconv.uint64pow10" .u64 Lib.pow10Tab) :
    Calls Tryd.prog 72 #[.int .i64 n] w fun e w' => e = .returned (.string ⟨(Lib.itoa n).toArray⟩) ∧ ∃ k os, w' = grow (w.drewN k) os := Any.strconv_Itoa Tryd.laysM171 n h0 h1 w htab
def Tryd.lays171_ren : Go.Shelf.Ren := ⟨fun | 171 => 72 | 243 => 95 | 246 => 110 | 283 => 124 | 284 => 125 | 285 => 126 | 286 => 127 | 129 => 135 | 317 => 134 | 318 => 136 | 319 => 137 | 320 => 138 | 337 => 141 | 338 => 142 | n => n, fun | 3 => 3 | 9 => 9 | 2 => 2 | 4 => 4 | 171 => 158 | 0 => 0 | 53 => 155 | 37 => 39 | 5 => 5 | 173 => 161 | 212 => 171 | 51 => 152 | 20 => 20 | 213 => 172 | 46 => 114 | 232 => 180 | 233 => 181 | n => n, fun | 17 => 6 | 18 => 7 | 19 => 8 | n => n⟩
def Tryd.lays247_ren : Go.Shelf.Ren := ⟨fun | 247 => 115 | 287 => 130 | 321 => 139 | 322 => 140 | n => n, fun | 9 => 9 | 3 => 3 | 2 => 2 | 75 => 109 | 4 => 4 | 167 => 146 | 5 => 5 | 53 => 155 | 175 => 164 | 46 => 114 | 37 => 39 | 0 => 0 | 21 => 21 | 80 => 67 | n => n, fun | n => n⟩
def Tryd.laysM316_ren : Go.Shelf.Ren := ⟨fun | 316 => 131 | n => n, fun | 9 => 9 | 3 => 3 | 4 => 4 | 37 => 39 | 0 => 0 | 127 => 116 | 5 => 5 | n => n, fun | n => n⟩
def Tryd.laysM279_ren : Go.Shelf.Ren := ⟨fun | 279 => 116 | 316 => 131 | n => n, fun | 9 => 9 | 168 => 149 | 75 => 109 | 210 => 167 | 3 => 3 | 4 => 4 | 37 => 39 | 0 => 0 | 127 => 116 | 80 => 67 | 5 => 5 | n => n, fun | 15 => 4 | n => n⟩
def Tryd.laysC245_ren : Go.Shelf.Ren := ⟨fun | 245 => 100 | 279 => 116 | 280 => 117 | 281 => 118 | 282 => 119 | 316 => 131 | 171 => 72 | 205 => 132 | 243 => 95 | 246 => 110 | 283 => 124 | 284 => 125 | 285 => 126 | 286 => 127 | 129 => 135 | 317 => 134 | 318 => 136 | 319 => 137 | 320 => 138 | 337 => 141 | 338 => 142 | n => n, fun | 9 => 9 | 3 => 3 | 75 => 109 | 167 => 146 | 4 => 4 | 168 => 149 | 210 => 167 | 37 => 39 | 0 => 0 | 127 => 116 | 145 => 178 | 143 => 176 | 2 => 2 | 171 => 158 | 53 => 155 | 5 => 5 | 173 => 161 | 212 => 171 | 51 => 152 | 20 => 20 | 213 => 172 | 46 => 114 | 232 => 180 | 233 => 181 | 80 => 67 | n => n, fun | 15 => 4 | 16 => 5 | 17 => 6 | 18 => 7 | 19 => 8 | n => n⟩
def Tryd.laysC172_ren : Go.Shelf.Ren := ⟨fun | 172 => 78 | 244 => 99 | 245 => 100 | 247 => 115 | 279 => 116 | 280 => 117 | 281 => 118 | 282 => 119 | 287 => 130 | 316 => 131 | 171 => 72 | 205 => 132 | 321 => 139 | 322 => 140 | 243 => 95 | 246 => 110 | 283 => 124 | 284 => 125 | 285 => 126 | 286 => 127 | 129 => 135 | 317 => 134 | 318 => 136 | 319 => 137 | 320 => 138 | 337 => 141 | 338 => 142 | n => n, fun | 9 => 9 | 3 => 3 | 75 => 109 | 76 => 110 | 4 => 4 | 5 => 5 | 167 => 146 | 37 => 39 | 0 => 0 | 85 => 147 | 2 => 2 | 168 => 149 | 53 => 155 | 175 => 164 | 46 => 114 | 210 => 167 | 127 => 116 | 145 => 178 | 143 => 176 | 21 => 21 | 171 => 158 | 173 => 161 | 212 => 171 | 51 => 152 | 20 => 20 | 213 => 172 | 232 => 180 | 233 => 181 | 80 => 67 | n => n, fun | 15 => 4 | 16 => 5 | 17 => 6 | 18 => 7 | 19 => 8 | n => n⟩
theorem Tryd.laysC172 : Go.Proofs.LaysC.n172 Tryd.prog Tryd.laysC172_ren := {
  mixed := by kernel_rfl
  f129 := Tryd.func135.trans (congrArg some (by kernel_rfl))
  f171 := Tryd.func72.trans (congrArg some (by kernel_rfl))
  f172 := Tryd.func78.trans (congrArg some (by kernel_rfl))
  f205 := Tryd.func132.trans (congrArg some (by kernel_rfl))
  f243 := Tryd.func95.trans (congrArg some (by kernel_rfl))
  f244 := Tryd.func99.trans (congrArg some (by kernel_rfl))
  f245 := Tryd.func100.trans (congrArg some (by kernel_rfl))
  f246 := Tryd.func110.trans (congrArg some (by kernel_rfl))
  f247 := Tryd.func115.trans (congrArg some (by kernel_rfl))
  f279 := Tryd.func116.trans (congrArg some (by kernel_rfl))
  f280 := Tryd.func117.trans (congrArg some (by kernel_rfl))
  f281 := Tryd.func118.trans (congrArg some (by kernel_rfl))
  f282 := Tryd.func119.trans (congrArg some (by kernel_rfl))
  f283 := Tryd.func124.trans (congrArg some (by kernel_rfl))
  f284 := Tryd.func125.trans (congrArg some (by kernel_rfl))
  f285 := Tryd.func126.trans (congrArg some (by kernel_rfl))
  f286 := Tryd.func127.trans (congrArg some (by kernel_rfl))
  f287 := Tryd.func130.trans (congrArg some (by kernel_rfl))
  f316 := Tryd.func131.trans (congrArg some (by kernel_rfl))
  f317 := Tryd.func134.trans (congrArg some (by kernel_rfl))
  f318 := Tryd.func136.trans (congrArg some (by kernel_rfl))
  f319 := Tryd.func137.trans (congrArg some (by kernel_rfl))
  f320 := Tryd.func138.trans (congrArg some (by kernel_rfl))
  f321 := Tryd.func139.trans (congrArg some (by kernel_rfl))
  f322 := Tryd.func140.trans (congrArg some (by kernel_rfl))
  f337 := Tryd.func141.trans (congrArg some (by kernel_rfl))
  f338 := Tryd.func142.trans (congrArg some (by kernel_rfl))
  t0 := Tryd.underlying0
  a0 := Tryd.isAgg0
  z0 := Tryd.sizeOf0
  v0 := Tryd.zeroValue0
  t2 := Tryd.underlying2
  a2 := Tryd.isAgg2
  z2 := Tryd.sizeOf2
  v2 := Tryd.zeroValue2
  t3 := Tryd.underlying3
  a3 := Tryd.isAgg3
  z3 := Tryd.sizeOf3
  v3 := Tryd.zeroValue3
  t4 := Tryd.underlying4
  a4 := Tryd.isAgg4
  z4 := Tryd.sizeOf4
  v4 := Tryd.zeroValue4
  t5 := Tryd.underlying5
  a5 := Tryd.isAgg5
  z5 := Tryd.sizeOf5
  v5 := Tryd.zeroValue5
  t9 := Tryd.underlying9
  a9 := Tryd.isAgg9
  z9 := Tryd.sizeOf9
  v9 := Tryd.zeroValue9
  t20 := Tryd.underlying20
  a20 := Tryd.isAgg20
  z20 := Tryd.sizeOf20
  v20 := Tryd.zeroValue20
  t21 := Tryd.underlying21
  a21 := Tryd.isAgg21
  z21 := Tryd.sizeOf21
  v21 := Tryd.zeroValue21
  t37 := Tryd.underlying39
  a37 := Tryd.isAgg39
  z37 := Tryd.sizeOf39
  v37 := Tryd.zeroValue39
  t46 := Tryd.underlying114
  a46 := Tryd.isAgg114
  z46 := Tryd.sizeOf114
  v46 := Tryd.zeroValue114
  t51 := Tryd.underlying152
  a51 := Tryd.isAgg152
  z51 := Tryd.sizeOf152
  v51 := Tryd.zeroValue152
  t53 := Tryd.underlying155
  a53 := Tryd.isAgg155
  z53 := Tryd.sizeOf155
  v53 := Tryd.zeroValue155
  t75 := Tryd.underlying109
  a75 := Tryd.isAgg109
  z75 := Tryd.sizeOf109
  v75 := Tryd.zeroValue109
  t76 := Tryd.underlying110
  a76 := Tryd.isAgg110
  z76 := Tryd.sizeOf110
  v76 := Tryd.zeroValue110
  t85 := Tryd.underlying147
  a85 := Tryd.isAgg147
  z85 := Tryd.sizeOf147
  v85 := Tryd.zeroValue147
  t127 := Tryd.underlying116
  a127 := Tryd.isAgg116
  z127 := Tryd.sizeOf116
  v127 := Tryd.zeroValue116
  t143 := Tryd.underlying176
  a143 := Tryd.isAgg176
  z143 := Tryd.sizeOf176
  v143 := Tryd.zeroValue176
  t145 := Tryd.underlying178
  a145 := Tryd.isAgg178
  z145 := Tryd.sizeOf178
  v145 := Tryd.zeroValue178
  t167 := Tryd.underlying146
  a167 := Tryd.isAgg146
  z167 := Tryd.sizeOf146
  v167 := Tryd.zeroValue146
  t168 := Tryd.underlying149
  a168 := Tryd.isAgg149
  z168 := Tryd.sizeOf149
  v168 := Tryd.zeroValue149
  t171 := Tryd.underlying158
  a171 := Tryd.isAgg158
  z171 := Tryd.sizeOf158
  v171 := Tryd.zeroValue158
  t173 := Tryd.underlying161
  a173 := Tryd.isAgg161
  z173 := Tryd.sizeOf161
  v173 := Tryd.zeroValue161
  t175 := Tryd.underlying164
  a175 := Tryd.isAgg164
  z175 := Tryd.sizeOf164
  v175 := Tryd.zeroValue164
  t210 := Tryd.underlying167
  a210 := Tryd.isAgg167
  z210 := Tryd.sizeOf167
  v210 := Tryd.zeroValue167
  t212 := Tryd.underlying171
  a212 := Tryd.isAgg171
  z212 := Tryd.sizeOf171
  v212 := Tryd.zeroValue171
  t213 := Tryd.underlying172
  a213 := Tryd.isAgg172
  z213 := Tryd.sizeOf172
  t232 := Tryd.underlying180
  a232 := Tryd.isAgg180
  z232 := Tryd.sizeOf180
  v232 := Tryd.zeroValue180
  t233 := Tryd.underlying181
  a233 := Tryd.isAgg181
  z233 := Tryd.sizeOf181
  v233 := Tryd.zeroValue181
  g15 := by kernel_rfl
  g16 := by kernel_rfl
  g17 := by kernel_rfl
  g18 := by kernel_rfl
  g19 := by kernel_rfl
  t80 := Tryd.underlying67
  a80 := Tryd.isAgg67
  z80 := Tryd.sizeOf67
  v80 := Tryd.zeroValue67
  i0 := by kernel_rfl
  i2 := by kernel_rfl
  i3 := by kernel_rfl
  i4 := by kernel_rfl
  i5 := by kernel_rfl
  i9 := by kernel_rfl
  i20 := by kernel_rfl
  i21 := by kernel_rfl
  i37 := by kernel_rfl
  i46 := by kernel_rfl
  i51 := by kernel_rfl
  i53 := by kernel_rfl
  i75 := by kernel_rfl
  i76 := by kernel_rfl
  i80 := by kernel_rfl
  i85 := by kernel_rfl
  i127 := by kernel_rfl
  i143 := by kernel_rfl
  i145 := by kernel_rfl
  i167 := by kernel_rfl
  i168 := by kernel_rfl
  i171 := by kernel_rfl
  i173 := by kernel_rfl
  i175 := by kernel_rfl
  i210 := by kernel_rfl
  i212 := by kernel_rfl
  i232 := by kernel_rfl
  i233 := by kernel_rfl
  m15 := by kernel_rfl
  m16 := by kernel_rfl
  m17 := by kernel_rfl
  m18 := by kernel_rfl
  m19 := by kernel_rfl
  c0 := by kernel_rfl
  c2 := by kernel_rfl
  c3 := by kernel_rfl
  c4 := by kernel_rfl
  c5 := by kernel_rfl
  c9 := by kernel_rfl
  c20 := by kernel_rfl
  c21 := by kernel_rfl
  c37 := by kernel_rfl
  c46 := by kernel_rfl
  c51 := by kernel_rfl
  c53 := by kernel_rfl
  c75 := by kernel_rfl
  c76 := by kernel_rfl
  c80 := by kernel_rfl
  c85 := by kernel_rfl
  c127 := by kernel_rfl
  c143 := by kernel_rfl
  c145 := by kernel_rfl
  c167 := by kernel_rfl
  c168 := by kernel_rfl
  c171 := by kernel_rfl
  c173 := by kernel_rfl
  c175 := by kernel_rfl
  c210 := by kernel_rfl
  c212 := by kernel_rfl
  c213 := by kernel_rfl
  c232 := by kernel_rfl
  c233 := by kernel_rfl }
def Tryd.lays321_ren : Go.Shelf.Ren := ⟨fun | 321 => 139 | n => n, fun | 5 => 5 | n => n, fun | n => n⟩
def Tryd.lays287_ren : Go.Shelf.Ren := ⟨fun | 287 => 130 | 321 => 139 | 322 => 140 | n => n, fun | 9 => 9 | 3 => 3 | 53 => 155 | 75 => 109 | 4 => 4 | 167 => 146 | 5 => 5 | 46 => 114 | 37 => 39 | 0 => 0 | 21 => 21 | 80 => 67 | n => n, fun | n => n⟩
def Tryd.laysC247_ren : Go.Shelf.Ren := ⟨fun | 247 => 115 | 287 => 130 | 321 => 139 | 322 => 140 | n => n, fun | 9 => 9 | 3 => 3 | 2 => 2 | 75 => 109 | 4 => 4 | 167 => 146 | 5 => 5 | 53 => 155 | 175 => 164 | 46 => 114 | 37 => 39 | 0 => 0 | 21 => 21 | 80 => 67 | n => n, fun | n => n⟩
def Tryd.laysC244_ren : Go.Shelf.Ren := ⟨fun | 244 => 99 | 247 => 115 | 287 => 130 | 321 => 139 | 322 => 140 | n => n, fun | 9 => 9 | 3 => 3 | 75 => 109 | 4 => 4 | 5 => 5 | 167 => 146 | 37 => 39 | 0 => 0 | 85 => 147 | 2 => 2 | 53 => 155 | 175 => 164 | 46 => 114 | 21 => 21 | 80 => 67 | n => n, fun | n => n⟩
def Tryd.laysM280_ren : Go.Shelf.Ren := ⟨fun | 280 => 117 | 316 => 131 | n => n, fun | 9 => 9 | 168 => 149 | 75 => 109 | 210 => 167 | 3 => 3 | 4 => 4 | 37 => 39 | 0 => 0 | 127 => 116 | 80 => 67 | 5 => 5 | n => n, fun | 16 => 5 | n => n⟩
open Go.RowKit in
/-- strconv.Atoi, AT EVERY STRING THAT SPELLS AN int ('Lib.atoiAll .. = .ok v'; of whatever length: leading zeros count): v, AND NO ERROR. The world: as it was, or with the one new row that '[]byte(..)' lays. (LAID: no walk: one application.) -/
theorem Tryd.strconv_Atoi_ok (s : ByteArray) (hmax : s.size ≤ 9223372036854775806) (v : Int) (h : Lib.atoiAll s.data.toList = .ok v) (w : World) :
    Calls Tryd.prog 78 #[.string s] w fun e w' => e = .returned (.tuple #[.int .i64 v, .nilIface]) ∧ (w' = w ∨ ∃ t, w' = Lib.bytesWorld w 5 t) := Any.strconv_Atoi_ok Tryd.laysC172 s hmax v h w
open Go.RowKit in
/-- strconv.Atoi, AT EVERY NUMERAL THAT NO int HOLDS ('.range'): THE GREATEST OR THE LEAST int, BY THE SIGN ('Lib.atoiSat'), AND AN ERROR THAT IS NOT nil: a *NumError in a new block N: {Func: "Atoi", Num: s's bytes, Err: what the variable ErrRange holds}. Of what was there nothing has turned. (LAID: no walk: one application.) -/
theorem Tryd.strconv_Atoi_range (s : ByteArray) (hlim : s.size ≤ 281474976710656) (h : Lib.atoiAll s.data.toList = .range) (ev : Value) (w : World) (hv : w.cell? ⟨5, 0, none⟩ = some ev) (hev : ev = .nilIface ∨ ∃ te pe, ev = .iface te pe) :
    Calls Tryd.prog 78 #[.string s] w fun e w' => ∃ N, e = .returned (.tuple #[.int .i64 (Lib.atoiSat s.data.toList), .iface 149 (.pointer (some ⟨N, 0, none⟩))]) ∧ w.heap.size ≤ N ∧ w'.heap[N]? = some (.cells #[.string ⟨#[65, 116, 111, 105]⟩, .string s, ev] 167 (0, 0)) ∧ Below w.heap.size w w' := Any.strconv_Atoi_range Tryd.laysC172 s hlim h ev w hv hev
def Tryd.lays217_ren : Go.Shelf.Ren := ⟨fun | 217 => 111 | 266 => 128 | n => n, fun | 9 => 9 | 5 => 5 | 3 => 3 | n => n, fun | n => n⟩
def Tryd.lays224_ren : Go.Shelf.Ren := ⟨fun | 224 => 113 | n => n, fun | 3 => 3 | n => n, fun | n => n⟩
def Tryd.lays314_ren : Go.Shelf.Ren := ⟨fun | 314 => 129 | n => n, fun | 9 => 9 | 51 => 152 | 3 => 3 | 4 => 4 | 5 => 5 | 46 => 114 | n => n, fun | n => n⟩
def Tryd.lays267_ren : Go.Shelf.Ren := ⟨fun | 267 => 114 | 314 => 129 | n => n, fun | 9 => 9 | 3 => 3 | 146 => 153 | 51 => 152 | 4 => 4 | 5 => 5 | 46 => 114 | n => n, fun | n => n⟩
def Tryd.lays219_ren : Go.Shelf.Ren := ⟨fun | 219 => 96 | 217 => 111 | 225 => 112 | 224 => 113 | 267 => 114 | 266 => 128 | 314 => 129 | n => n, fun | 9 => 9 | 3 => 3 | 4 => 4 | 5 => 5 | 46 => 114 | 146 => 153 | 51 => 152 | n => n, fun | 1 => 3 | n => n⟩
theorem Tryd.lays219 : Go.Proofs.Lays.n219 Tryd.prog Tryd.lays219_ren := {
  mixed := by kernel_rfl
  f217 := Tryd.func111.trans (congrArg some (by kernel_rfl))
  f219 := Tryd.func96.trans (congrArg some (by kernel_rfl))
  f224 := Tryd.func113.trans (congrArg some (by kernel_rfl))
  f225 := Tryd.func112.trans (congrArg some (by kernel_rfl))
  f266 := Tryd.func128.trans (congrArg some (by kernel_rfl))
  f267 := Tryd.func114.trans (congrArg some (by kernel_rfl))
  f314 := Tryd.func129.trans (congrArg some (by kernel_rfl))
  t3 := Tryd.underlying3
  a3 := Tryd.isAgg3
  z3 := Tryd.sizeOf3
  v3 := Tryd.zeroValue3
  t4 := Tryd.underlying4
  a4 := Tryd.isAgg4
  z4 := Tryd.sizeOf4
  v4 := Tryd.zeroValue4
  t5 := Tryd.underlying5
  a5 := Tryd.isAgg5
  z5 := Tryd.sizeOf5
  v5 := Tryd.zeroValue5
  t9 := Tryd.underlying9
  a9 := Tryd.isAgg9
  z9 := Tryd.sizeOf9
  v9 := Tryd.zeroValue9
  t46 := Tryd.underlying114
  a46 := Tryd.isAgg114
  z46 := Tryd.sizeOf114
  v46 := Tryd.zeroValue114
  t51 := Tryd.underlying152
  a51 := Tryd.isAgg152
  z51 := Tryd.sizeOf152
  v51 := Tryd.zeroValue152
  t146 := Tryd.underlying153
  a146 := Tryd.isAgg153
  z146 := Tryd.sizeOf153
  v146 := Tryd.zeroValue153
  g1 := by kernel_rfl }
open Go.RowKit Go.Lib in
/-- internal/stringslite.Index (what strings.Index calls) AT A substr OF ONE BYTE c: IT RETURNS 'Lib.indexByte s c'; the world is as it was. (LAID: no walk: one application.) -/
theorem Tryd.stringslite_Index_one (s : ByteArray) (c : UInt8) (w : World) :
    Calls Tryd.prog 96 #[.string s, .string ⟨#[c]⟩] w fun e w' => e = .returned (.int .i64 (Lib.indexByte s.data.toList c)) ∧ w' = w := Any.stringslite_Index_one Tryd.lays219 s c w
def Tryd.lays143_ren : Go.Shelf.Ren := ⟨fun | 143 => 85 | 219 => 96 | 217 => 111 | 225 => 112 | 224 => 113 | 267 => 114 | 266 => 128 | 314 => 129 | n => n, fun | 9 => 9 | 3 => 3 | 4 => 4 | 5 => 5 | 46 => 114 | 146 => 153 | 51 => 152 | n => n, fun | 1 => 3 | n => n⟩
def Tryd.lays144_ren : Go.Shelf.Ren := ⟨fun | 144 => 57 | 143 => 85 | 219 => 96 | 217 => 111 | 225 => 112 | 224 => 113 | 267 => 114 | 266 => 128 | 314 => 129 | n => n, fun | 9 => 9 | 4 => 4 | 3 => 3 | 5 => 5 | 46 => 114 | 146 => 153 | 51 => 152 | n => n, fun | 1 => 3 | n => n⟩
def Tryd.lays220_ren : Go.Shelf.Ren := ⟨fun | 220 => 75 | 219 => 96 | 217 => 111 | 225 => 112 | 224 => 113 | 267 => 114 | 266 => 128 | 314 => 129 | n => n, fun | 9 => 9 | 4 => 4 | 3 => 3 | 5 => 5 | 46 => 114 | 146 => 153 | 51 => 152 | n => n, fun | 1 => 3 | n => n⟩
def Tryd.lays145_ren : Go.Shelf.Ren := ⟨fun | 145 => 48 | 220 => 75 | 219 => 96 | 217 => 111 | 225 => 112 | 224 => 113 | 267 => 114 | 266 => 128 | 314 => 129 | n => n, fun | 9 => 9 | 4 => 4 | 59 => 77 | 3 => 3 | 5 => 5 | 46 => 114 | 146 => 153 | 51 => 152 | n => n, fun | 1 => 3 | n => n⟩
def Tryd.laysM219_ren : Go.Shelf.Ren := ⟨fun | 219 => 96 | 217 => 111 | 225 => 112 | 224 => 113 | 267 => 114 | 266 => 128 | 314 => 129 | n => n, fun | 9 => 9 | 3 => 3 | 4 => 4 | 5 => 5 | 46 => 114 | 146 => 153 | 51 => 152 | n => n, fun | 1 => 3 | n => n⟩
def Tryd.laysM143_ren : Go.Shelf.Ren := ⟨fun | 143 => 85 | 219 => 96 | 217 => 111 | 225 => 112 | 224 => 113 | 267 => 114 | 266 => 128 | 314 => 129 | n => n, fun | 9 => 9 | 3 => 3 | 4 => 4 | 5 => 5 | 46 => 114 | 146 => 153 | 51 => 152 | n => n, fun | 1 => 3 | n => n⟩
def Tryd.laysM144_ren : Go.Shelf.Ren := ⟨fun | 144 => 57 | 143 => 85 | 219 => 96 | 217 => 111 | 225 => 112 | 224 => 113 | 267 => 114 | 266 => 128 | 314 => 129 | n => n, fun | 9 => 9 | 4 => 4 | 3 => 3 | 5 => 5 | 46 => 114 | 146 => 153 | 51 => 152 | n => n, fun | 1 => 3 | n => n⟩
def Tryd.laysM220_ren : Go.Shelf.Ren := ⟨fun | 220 => 75 | 219 => 96 | 217 => 111 | 225 => 112 | 224 => 113 | 267 => 114 | 266 => 128 | 314 => 129 | n => n, fun | 9 => 9 | 4 => 4 | 3 => 3 | 5 => 5 | 46 => 114 | 146 => 153 | 51 => 152 | n => n, fun | 1 => 3 | n => n⟩
def Tryd.laysM145_ren : Go.Shelf.Ren := ⟨fun | 145 => 48 | 220 => 75 | 219 => 96 | 217 => 111 | 225 => 112 | 224 => 113 | 267 => 114 | 266 => 128 | 314 => 129 | n => n, fun | 9 => 9 | 4 => 4 | 59 => 77 | 3 => 3 | 5 => 5 | 46 => 114 | 146 => 153 | 51 => 152 | n => n, fun | 1 => 3 | n => n⟩
def Tryd.lays222_ren : Go.Shelf.Ren := ⟨fun | 222 => 108 | n => n, fun | 9 => 9 | 5 => 5 | 3 => 3 | 4 => 4 | n => n, fun | n => n⟩
def Tryd.lays149_ren : Go.Shelf.Ren := ⟨fun | 149 => 92 | 222 => 108 | n => n, fun | 9 => 9 | 5 => 5 | 3 => 3 | 4 => 4 | n => n, fun | n => n⟩
def Tryd.lays206_ren : Go.Shelf.Ren := ⟨fun | 206 => 97 | n => n, fun | 9 => 9 | 4 => 4 | 3 => 3 | n => n, fun | n => n⟩
def Tryd.lays99_ren : Go.Shelf.Ren := ⟨fun | 99 => 76 | 206 => 97 | n => n, fun | 9 => 9 | 4 => 4 | 3 => 3 | n => n, fun | n => n⟩
theorem Tryd.lays99 : Go.Proofs.Lays.n99 Tryd.prog Tryd.lays99_ren := {
  mixed := by kernel_rfl
  f99 := Tryd.func76.trans (congrArg some (by kernel_rfl))
  f206 := Tryd.func97.trans (congrArg some (by kernel_rfl))
  t3 := Tryd.underlying3
  a3 := Tryd.isAgg3
  z3 := Tryd.sizeOf3
  v3 := Tryd.zeroValue3
  t4 := Tryd.underlying4
  a4 := Tryd.isAgg4
  z4 := Tryd.sizeOf4
  v4 := Tryd.zeroValue4
  t9 := Tryd.underlying9
  a9 := Tryd.isAgg9
  z9 := Tryd.sizeOf9
  v9 := Tryd.zeroValue9 }
open Go.RowKit Go.Lib in
/-- strings.HasPrefix: "HasPrefix reports whether the string s begins with prefix.": IT RETURNS 'Lib.hasPrefix s prefix'; the world is as it was. (LAID: no walk: one application.) -/
theorem Tryd.strings_HasPrefix (s p : ByteArray) (w : World) :
    Calls Tryd.prog 76 #[.string s, .string p] w fun e w' => e = .returned (.bool (Lib.hasPrefix s.data.toList p.data.toList)) ∧ w' = w := Any.strings_HasPrefix Tryd.lays99 s p w
def Tryd.lays207_ren : Go.Shelf.Ren := ⟨fun | 207 => 120 | n => n, fun | 9 => 9 | 4 => 4 | 3 => 3 | n => n, fun | n => n⟩
def Tryd.lays264_ren : Go.Shelf.Ren := ⟨fun | 264 => 122 | n => n, fun | 53 => 155 | 46 => 114 | n => n, fun | n => n⟩
def Tryd.lays212_ren : Go.Shelf.Ren := ⟨fun | 212 => 106 | 263 => 121 | 264 => 122 | n => n, fun | 46 => 114 | 51 => 152 | 146 => 153 | 53 => 155 | 148 => 156 | n => n, fun | n => n⟩
def Tryd.lays105_ren : Go.Shelf.Ren := ⟨fun | 105 => 91 | 212 => 106 | 99 => 76 | 165 => 107 | 166 => 70 | 170 => 44 | 169 => 46 | 263 => 121 | 264 => 122 | 206 => 97 | 240 => 94 | 241 => 123 | 276 => 109 | 277 => 133 | n => n, fun | 9 => 9 | 3 => 3 | 4 => 4 | 20 => 20 | 0 => 0 | 46 => 114 | 109 => 141 | 5 => 5 | 72 => 74 | 76 => 110 | 51 => 152 | 146 => 153 | 53 => 155 | 148 => 156 | 70 => 72 | 37 => 39 | 75 => 109 | 127 => 116 | 164 => 143 | 80 => 67 | n => n, fun | n => n⟩
def Tryd.laysPa45_ren : Go.Shelf.Ren := ⟨fun | 45 => 108 | n => n, fun | 9 => 9 | 5 => 5 | 3 => 3 | 4 => 4 | n => n, fun | n => n⟩
end Go.Proofs
