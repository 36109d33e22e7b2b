/- Lines and columns in plain Lean: how many line feeds stand ahead, where the last line begins, the place behind a text. No program; no condition. -/
import Derived.Test.YtgjlpkocieffeaaDoorUtf
import Derived.Lib.LastIndexByte
import Derived.Lib.Bytealg
namespace Go.Proofs.YtgjlpkocieffeaaDoor
open Go.RowKit Go.Lib

/-- How many line feeds stand among the first i bytes. -/
def nlAt (s : ByteArray) : Nat → Nat
  | 0 => 0
  | i + 1 => if byteAt s i = 10 then nlAt s i + 1 else nlAt s i
/-- Where the line begins in which place i stands. -/
def fromAt (s : ByteArray) : Nat → Nat
  | 0 => 0
  | i + 1 => if byteAt s i = 10 then i + 1 else fromAt s i
theorem nlAt_le (s : ByteArray) : ∀ i, nlAt s i ≤ i
  | 0 => Nat.le_refl _
  | i + 1 => by have := nlAt_le s i; unfold nlAt; split <;> omega
theorem fromAt_le (s : ByteArray) : ∀ i, fromAt s i ≤ i
  | 0 => Nat.le_refl _
  | i + 1 => by have := fromAt_le s i; unfold fromAt; split <;> omega
theorem fromAt_zero (s : ByteArray) : ∀ i, nlAt s i = 0 → fromAt s i = 0
  | 0, _ => rfl
  | i + 1, h => by unfold nlAt at h; unfold fromAt; split at h; omega; rw [if_neg (by assumption)]; exact fromAt_zero s i h
theorem wrap64_idem (x : Int) : wrap64 (wrap64 x) = wrap64 x := by unfold wrap64; omega
theorem wrap64_add (x y : Int) : wrap64 (wrap64 x + y) = wrap64 (x + y) := by unfold wrap64; omega
def colI (n : Nat) (c : Int) : Int := if n = 0 then c else 1
/-- How many characters the last line has. -/
def tailC (s : ByteArray) : Nat := cnt (s.data.toList.drop (fromAt s s.size))
theorem tailC_le (s : ByteArray) : tailC s ≤ s.size := by
  unfold tailC; have := cnt_le (s.data.toList.drop (fromAt s s.size)); rw [List.length_drop, size_len] at this; omega
/-- The place behind a text, at a place. -/
def advV (a l c : Int) (s : ByteArray) : Value := .agg #[.int .i64 (wrap64 (a + s.size)), .int .i64 (wrap64 (l + nlAt s s.size)), .int .i64 (wrap64 (colI (nlAt s s.size) c + tailC s))]

theorem byteAt_bang (s : ByteArray) (i : Nat) : (s.data[i]!).toNat = byteAt s i := by
  unfold byteAt; rw [getD_get!']; rfl
theorem last_from (s : ByteArray) : ∀ i, Lib.lastIdx s 10 i + 1 = fromAt s i
  | 0 => rfl
  | i + 1 => by
    unfold Lib.lastIdx fromAt
    rw [byteAt_bang]
    by_cases h : byteAt s i = 10
    · rw [if_pos h, if_pos (by omega)]; omega
    · rw [if_neg h, if_neg (by omega)]; exact last_from s i
theorem last_from' (s : ByteArray) : Lib.lastIndexByte s 10 = (fromAt s s.size : Int) - 1 := by
  have := last_from s s.size; unfold Lib.lastIndexByte; omega
theorem count_take (s : ByteArray) : ∀ i, i ≤ s.size → (s.data.toList.take i).count 10 = nlAt s i
  | 0, _ => rfl
  | i + 1, h => by
    have hl : i < s.data.toList.length := by rw [size_len]; exact h
    rw [List.take_succ_eq_append_getElem hl, List.count_append, count_take s i (by omega)]
    have e : (s.data.toList[i]'hl).toNat = byteAt s i := by unfold byteAt; rw [List.getD_eq_getElem?_getD, List.getElem?_eq_getElem hl]; rfl
    rw [nlAt]
    by_cases hb : byteAt s i = 10
    · have : s.data.toList[i]'hl = 10 := UInt8.toNat_inj.1 (by rw [e, hb]; rfl)
      rw [if_pos hb, this]; rfl
    · have : (s.data.toList[i]'hl == 10) = false := by rw [beq_eq_false_iff_ne]; exact fun c => hb (by rw [← e, c]; rfl)
      rw [if_neg hb, List.count_cons, this]; rfl
theorem countByte_nl (s : ByteArray) : Lib.countByte s.data.toList 10 = nlAt s s.size := by
  unfold Lib.countByte; rw [← count_take s s.size (Nat.le_refl _), List.take_of_length_le (by rw [size_len]; exact Nat.le_refl _)]

end Go.Proofs.YtgjlpkocieffeaaDoor
