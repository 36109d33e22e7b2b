/- Characters of a list of bytes in plain Lean, by the model's own decoding: how many there are, from which place on. No program; no condition. -/
import Derived.Lib.TrimUEq
import Derived.Lib.MapLaws
import Derived.WalkKit
namespace Go.Proofs.YtbdilejhbeffjaaDoor
open Go.Lib Go.RowKit

abbrev Bs := List UInt8

/-- How many characters a text has. -/
def cnt : Bs → Nat
  | [] => 0
  | b :: t => 1 + cnt (t.drop ((decodeL (b :: t)).2 - 1))
termination_by l => l.length
decreasing_by simp only [List.length_drop, List.length_cons]; omega

theorem size_len (s : ByteArray) : s.data.toList.length = s.size := by simp
/-- The same with a bound on the rounds: what it is of a given text, a computation shows. -/
def cntF : Nat → Bs → Nat
  | 0, _ => 0
  | _ + 1, [] => 0
  | f + 1, b :: t => 1 + cntF f ((b :: t).drop (decodeL (b :: t)).2)
/-- Where its characters begin, counted from p on. -/
def offs : Bs → Nat → List Nat
  | [], _ => []
  | b :: t, p => p :: offs (t.drop ((decodeL (b :: t)).2 - 1)) (p + (decodeL (b :: t)).2)
termination_by l => l.length
decreasing_by simp only [List.length_drop, List.length_cons]; omega
/-- The byte at a place. -/
def byteAt (s : ByteArray) (i : Nat) : Nat := (s.data.toList.getD i 0).toNat
theorem byteAt_get (s : ByteArray) (i : Nat) (h : i < s.size) : (s[i]'h).toNat = byteAt s i := by
  unfold byteAt; rw [List.getD_eq_getElem?_getD, List.getElem?_eq_getElem (by simpa using h)]; rfl
theorem byteAt_lt (s : ByteArray) (i : Nat) : byteAt s i < 256 := UInt8.toNat_lt _
theorem wrap64_byteAt (s : ByteArray) (i : Nat) : wrap64 (byteAt s i : Int) = (byteAt s i : Int) := by
  have := byteAt_lt s i; unfold wrap64; omega

end Go.Proofs.YtbdilejhbeffjaaDoor
