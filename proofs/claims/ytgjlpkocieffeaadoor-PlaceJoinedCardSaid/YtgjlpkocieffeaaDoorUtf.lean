/- Characters of a list of bytes in plain Lean, by the model's own decoding: how many there are, from which place on. No program; no condition. -/
import Derived.Lib.TrimUEq
import Derived.Lib.MapLaws
import Derived.WalkKit
namespace Go.Proofs.YtgjlpkocieffeaaDoor
open Go.Lib Go.RowKit

abbrev Bs := List UInt8

theorem decL_pos (l : Bs) : 1 ≤ (decodeL l).2 := by rw [decodeL_N]; exact decodeN_ge1 _ _ _ _ _
theorem decL_le (l : Bs) (h : l ≠ []) : (decodeL l).2 ≤ l.length := decodeL_le l h

/-- How many characters a text has. -/
def cnt : Bs → Nat
  | [] => 0
  | b :: t => 1 + cnt (t.drop ((decodeL (b :: t)).2 - 1))
termination_by l => l.length
decreasing_by simp only [List.length_drop, List.length_cons]; omega

theorem cnt_nil : cnt [] = 0 := by unfold cnt; rfl
theorem cnt_step (l : Bs) (h : l ≠ []) : cnt l = 1 + cnt (l.drop (decodeL l).2) := by
  cases l with
  | nil => exact absurd rfl h
  | cons b t =>
    have := decL_pos (b :: t)
    rw [cnt]
    congr 2
    obtain ⟨n, hn⟩ : ∃ n, (decodeL (b :: t)).2 = n + 1 := ⟨(decodeL (b :: t)).2 - 1, by omega⟩
    rw [hn]; rfl
theorem cnt_le (l : Bs) : cnt l ≤ l.length := by
  induction h : l.length using Nat.strongRecOn generalizing l with
  | _ n ih =>
    by_cases e : l = []
    · subst e; simp [cnt_nil]
    · have h1 := decL_pos l
      have h2 := decL_le l e
      rw [cnt_step l e]
      have := ih (l.drop (decodeL l).2).length (by rw [List.length_drop]; omega) _ rfl
      rw [List.length_drop] at this; omega

theorem size_len (s : ByteArray) : s.data.toList.length = s.size := by simp
theorem drop_ne (s : ByteArray) (p : Nat) (h : p < s.size) : s.data.toList.drop p ≠ [] := by
  intro e; have := congrArg List.length e; rw [List.length_drop, size_len] at this; simp at this; omega
theorem cnt_at (s : ByteArray) (p : Nat) (h : p < s.size) :
    cnt (s.data.toList.drop p) = 1 + cnt (s.data.toList.drop (p + (Utf8.decode s p).2)) := by
  rw [cnt_step _ (drop_ne s p h), decodeL_drop, List.drop_drop]
theorem dec_le (s : ByteArray) (p : Nat) (h : p < s.size) : p + (Utf8.decode s p).2 ≤ s.size := by
  have := decL_le _ (drop_ne s p h); rw [decodeL_drop, List.length_drop, size_len] at this; omega
theorem dec_pos (s : ByteArray) (p : Nat) : 1 ≤ (Utf8.decode s p).2 := by rw [← decodeL_drop]; exact decL_pos _
theorem cnt_end (s : ByteArray) (p : Nat) (h : s.size ≤ p) : cnt (s.data.toList.drop p) = 0 := by
  rw [List.drop_eq_nil_of_le (by rw [size_len]; exact h), cnt_nil]


/-- The same with a bound on the rounds: what it is of a given text, a computation shows. -/
def cntF : Nat → Bs → Nat
  | 0, _ => 0
  | _ + 1, [] => 0
  | f + 1, b :: t => 1 + cntF f ((b :: t).drop (decodeL (b :: t)).2)
theorem cnt_F : ∀ (f : Nat) (l : Bs), l.length ≤ f → cnt l = cntF f l
  | 0, l, h => by cases l with | nil => rw [cnt_nil]; rfl | cons b t => simp at h
  | f + 1, [], _ => by rw [cnt_nil]; rfl
  | f + 1, b :: t, h => by
    have h1 := decL_pos (b :: t)
    rw [cnt_step _ (by simp), cnt_F f _ (by rw [List.length_drop]; omega)]; rfl

/-- Where its characters begin, counted from p on. -/
def offs : Bs → Nat → List Nat
  | [], _ => []
  | b :: t, p => p :: offs (t.drop ((decodeL (b :: t)).2 - 1)) (p + (decodeL (b :: t)).2)
termination_by l => l.length
decreasing_by simp only [List.length_drop, List.length_cons]; omega
theorem offs_nil (p : Nat) : offs [] p = [] := by unfold offs; rfl
theorem offs_step (l : Bs) (p : Nat) (h : l ≠ []) : offs l p = p :: offs (l.drop (decodeL l).2) (p + (decodeL l).2) := by
  cases l with
  | nil => exact absurd rfl h
  | cons b t =>
    have := decL_pos (b :: t)
    rw [offs]
    obtain ⟨n, hn⟩ : ∃ n, (decodeL (b :: t)).2 = n + 1 := ⟨(decodeL (b :: t)).2 - 1, by omega⟩
    rw [hn]; rfl
theorem offs_len (l : Bs) : ∀ p, (offs l p).length = cnt l := by
  induction h : l.length using Nat.strongRecOn generalizing l with
  | _ n ih =>
    intro p
    by_cases e : l = []
    · subst e; simp [cnt_nil, offs_nil]
    · have h1 := decL_pos l
      have h2 := decL_le l e
      rw [cnt_step l e, offs_step l p e, List.length_cons, ih (l.drop (decodeL l).2).length (by rw [List.length_drop]; omega) _ rfl]; omega
theorem offs_at (s : ByteArray) (p : Nat) (h : p < s.size) : offs (s.data.toList.drop p) p = p :: offs (s.data.toList.drop (p + (Utf8.decode s p).2)) (p + (Utf8.decode s p).2) := by
  rw [offs_step _ _ (drop_ne s p h), decodeL_drop, List.drop_drop]
theorem offs_end (s : ByteArray) (p : Nat) (h : s.size ≤ p) : offs (s.data.toList.drop p) p = [] := by
  rw [List.drop_eq_nil_of_le (by rw [size_len]; exact h), offs_nil]

/-- The byte at a place. -/
def byteAt (s : ByteArray) (i : Nat) : Nat := (s.data.toList.getD i 0).toNat
theorem byteAt_get (s : ByteArray) (i : Nat) (h : i < s.size) : (s[i]'h).toNat = byteAt s i := by
  unfold byteAt; rw [List.getD_eq_getElem?_getD, List.getElem?_eq_getElem (by simpa using h)]; rfl
theorem byteAt_lt (s : ByteArray) (i : Nat) : byteAt s i < 256 := UInt8.toNat_lt _
theorem wrap64_byteAt (s : ByteArray) (i : Nat) : wrap64 (byteAt s i : Int) = (byteAt s i : Int) := by
  have := byteAt_lt s i; unfold wrap64; omega
attribute [go_sem] byteAt_get wrap64_byteAt

end Go.Proofs.YtgjlpkocieffeaaDoor
