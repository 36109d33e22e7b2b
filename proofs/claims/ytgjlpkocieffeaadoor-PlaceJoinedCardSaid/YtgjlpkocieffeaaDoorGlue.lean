/- A text is its lines with a line feed between each two, in plain Lean. No program; no condition. -/
import Derived.Test.YtgjlpkocieffeaaDoorLines
import Derived.Test.YtgjlpkocieffeaaDoorPos
namespace Go.Proofs.YtgjlpkocieffeaaDoor
open Go.RowKit Go.Lib
/-- Lines, with a line feed between each two. -/
def glue : List Bs → Bs
  | [] => []
  | [x] => x
  | x :: y :: r => x ++ 10 :: glue (y :: r)
theorem glue_snoc : ∀ (ls : List Bs) (x : Bs), ls ≠ [] → glue (ls ++ [x]) = glue ls ++ 10 :: x
  | [], _, h => absurd rfl h
  | [y], x, _ => by simp [glue]
  | y :: z :: r, x, _ => by
    have := glue_snoc (z :: r) x (by simp)
    simp only [List.cons_append] at this ⊢
    rw [glue, this, glue]; simp
theorem glue_cons (b : UInt8) (x : Bs) (r : List Bs) : glue ((b :: x) :: r) = b :: glue (x :: r) := by cases r <;> simp [glue]
theorem glue_lines : ∀ l : Bs, glue (linesOf l) = l
  | [] => rfl
  | b :: t => by
    have ih := glue_lines t
    unfold linesOf
    split
    · rename_i h; subst h
      cases e : linesOf t with
      | nil => exact absurd e (linesOf_ne t)
      | cons x r => rw [e] at ih; simp [glue, ih]
    · split
      · rename_i e; exact absurd e (linesOf_ne t)
      · rename_i x r e; rw [e] at ih; rw [glue_cons, ih]
theorem lines_count : ∀ l : Bs, (linesOf l).length = l.count 10 + 1
  | [] => rfl
  | b :: t => by
    have ih := lines_count t
    unfold linesOf
    split
    · rename_i h; subst h; simp [ih]
    · rename_i h
      split
      · rename_i e; exact absurd e (linesOf_ne t)
      · rename_i x r e; rw [e] at ih; simp only [List.length_cons] at ih ⊢; rw [List.count_cons_of_ne (fun c => h c)]; exact ih
theorem lines_nlAt (s : ByteArray) : (linesOf s.data.toList).length = nlAt s s.size + 1 := by
  rw [lines_count, ← count_take s s.size (Nat.le_refl _), List.take_of_length_le (by rw [size_len]; exact Nat.le_refl _)]
theorem glue_take (l : Bs) (k : Nat) (h : k < (linesOf l).length) (hk : 0 < k) : glue ((linesOf l).take (k + 1)) = glue ((linesOf l).take k) ++ 10 :: (linesOf l)[k] := by
  rw [List.take_succ_eq_append_getElem h, glue_snoc _ _ (fun e => by have h2 : ((linesOf l).take k).length = 0 := (by rw [e]; rfl); rw [List.length_take] at h2; omega)]
theorem getLine_some (l : Bs) (k : Nat) (h : k < (linesOf l).length) : getLine l (k + 1 : Nat) = some (linesOf l)[k] := by
  unfold getLine; rw [if_neg (by omega), show ((k + 1 : Nat) : Int).toNat - 1 = k by simp, List.getElem?_eq_getElem h]
theorem lineV_some (l : Bs) (k : Nat) (h : k < (linesOf l).length) : lineV l (k + 1 : Nat) = .tuple #[.string ⟨(linesOf l)[k].toArray⟩, .bool true] := by
  unfold lineV; rw [getLine_some l k h]
theorem lineV_none (l : Bs) (n : Int) (h : n < 1 ∨ ((linesOf l).length : Int) < n) : lineV l n = .tuple #[.string ⟨#[]⟩, .bool false] := by
  unfold lineV; rw [getLine_none l n h]

theorem glue_len_take : ∀ (ls : List Bs) (k : Nat), (glue (ls.take k)).length ≤ (glue ls).length
  | [], k => by simp
  | [x], k => by cases k <;> simp [glue]
  | x :: y :: r, 0 => by simp [glue]
  | x :: y :: r, 1 => by simp [glue]
  | x :: y :: r, k + 2 => by
    have := glue_len_take (y :: r) (k + 1)
    simp only [List.take_succ_cons, glue, List.length_append, List.length_cons] at this ⊢; omega
theorem glue_len_mem : ∀ (ls : List Bs) (x : Bs), x ∈ ls → x.length ≤ (glue ls).length
  | [], _, h => by simp at h
  | [y], x, h => by simp at h; subst h; simp [glue]
  | y :: z :: r, x, h => by
    simp only [glue, List.length_append, List.length_cons]
    rcases List.mem_cons.1 h with rfl | h
    · omega
    · have := glue_len_mem (z :: r) x h; omega
theorem glue_one' : ∀ (ls : List Bs) (h : 0 < ls.length), glue (ls.take 1) = ls[0]
  | [], h => by simp at h
  | x :: r, _ => by simp [glue]
theorem glue_one (l : Bs) (h : 0 < (linesOf l).length) : glue ((linesOf l).take 1) = (linesOf l)[0] := glue_one' _ h

end Go.Proofs.YtgjlpkocieffeaaDoor
