/- The lines of a text in plain Lean. No program; no condition. -/
import Derived.Test.YtgjlpkocieffeaaDoorUtf
namespace Go.Proofs.YtgjlpkocieffeaaDoor
open Go.RowKit Go.Lib
/-- A text's lines, without their ends. -/
def linesOf : Bs → List Bs
  | [] => [[]]
  | b :: t => if b = 10 then [] :: linesOf t else match linesOf t with
    | [] => [[b]]
    | x :: r => (b :: x) :: r
theorem linesOf_ne : ∀ l, linesOf l ≠ []
  | [] => by simp [linesOf]
  | b :: t => by unfold linesOf; split; simp; split <;> simp
/-- The first line, and what stands behind. -/
theorem linesOf_run : ∀ (x t : Bs), (∀ b ∈ x, b ≠ 10) → linesOf (x ++ 10 :: t) = x :: linesOf t
  | [], t, _ => by simp [linesOf]
  | b :: x, t, h => by
    have hb : b ≠ 10 := h b (by simp)
    have ih := linesOf_run x t (fun c hc => h c (by simp [hc]))
    rw [List.cons_append, linesOf, if_neg hb, ih]
theorem linesOf_end : ∀ (x : Bs), (∀ b ∈ x, b ≠ 10) → linesOf x = [x]
  | [], _ => rfl
  | b :: x, h => by
    have hb : b ≠ 10 := h b (by simp)
    have ih := linesOf_end x (fun c hc => h c (by simp [hc]))
    rw [linesOf, if_neg hb, ih]
def getLine (l : Bs) (n : Int) : Option Bs := if n < 1 then none else (linesOf l)[n.toNat - 1]?
def lineV (l : Bs) (n : Int) : Value := match getLine l n with
  | some x => .tuple #[.string ⟨x.toArray⟩, .bool true]
  | none => .tuple #[.string ⟨#[]⟩, .bool false]
theorem extract_list (s : ByteArray) (a b : Nat) : s.extract a b = ⟨((s.data.toList.drop a).take (b - a)).toArray⟩ := by
  apply ByteArray.ext
  simp [ByteArray.data_extract]
  exact Array.toList_inj.1 (by simp)
theorem byteAt_ne (s : ByteArray) (a b : Nat) (_hb : b ≤ s.size) (h : ∀ j, a ≤ j → j < b → byteAt s j ≠ 10) : ∀ c ∈ (s.data.toList.drop a).take (b - a), c ≠ 10 := by
  intro c hc e
  subst e
  obtain ⟨i, hi, he⟩ := List.mem_iff_getElem.1 hc
  rw [List.length_take, List.length_drop, size_len] at hi
  rw [List.getElem_take, List.getElem_drop] at he
  refine h (a + i) (by omega) (by omega) ?_
  unfold byteAt
  rw [List.getD_eq_getElem?_getD, List.getElem?_eq_getElem (by rw [size_len]; omega), Option.getD_some, he]; rfl
theorem lines_nl (s : ByteArray) (a b : Nat) (hab : a ≤ b) (hb : b < s.size) (h : ∀ j, a ≤ j → j < b → byteAt s j ≠ 10) (h10 : byteAt s b = 10) :
    linesOf (s.data.toList.drop a) = (s.data.toList.drop a).take (b - a) :: linesOf (s.data.toList.drop (b + 1)) := by
  have hl : b < s.data.toList.length := by rw [size_len]; exact hb
  have e : s.data.toList.drop a = (s.data.toList.drop a).take (b - a) ++ 10 :: s.data.toList.drop (b + 1) := by
    conv => lhs; rw [← List.take_append_drop (b - a) (s.data.toList.drop a)]
    congr 1
    rw [List.drop_drop, show a + (b - a) = b by omega, List.drop_eq_getElem_cons hl]
    congr 1
    apply UInt8.toNat_inj.1
    unfold byteAt at h10
    rw [List.getD_eq_getElem?_getD, List.getElem?_eq_getElem hl] at h10
    exact h10
  conv => lhs; rw [e]
  exact linesOf_run _ _ (byteAt_ne s a b (by omega) h)
theorem lines_last (s : ByteArray) (a : Nat) (h : ∀ j, a ≤ j → j < s.size → byteAt s j ≠ 10) : linesOf (s.data.toList.drop a) = [(s.data.toList.drop a).take (s.size - a)] := by
  have := byteAt_ne s a s.size (Nat.le_refl _) h
  rw [List.take_of_length_le (by rw [List.length_drop, size_len]; exact Nat.le_refl _)] at *
  exact linesOf_end _ this
theorem getLine_at (l : Bs) (pre : List Bs) (x : Bs) (r : List Bs) (n : Int) (h : linesOf l = pre ++ x :: r) (hn : n = pre.length + 1) : getLine l n = some x := by
  unfold getLine; rw [if_neg (by omega), h, hn, show ((pre.length : Int) + 1).toNat - 1 = pre.length by omega]; simp
theorem getLine_none (l : Bs) (n : Int) (h : n < 1 ∨ ((linesOf l).length : Int) < n) : getLine l n = none := by
  unfold getLine; split; rfl; rw [List.getElem?_eq_none]; omega

end Go.Proofs.YtgjlpkocieffeaaDoor
