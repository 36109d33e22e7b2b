/- The lines of a text in plain Lean. No program; no condition. -/
import Derived.Test.YtbdilejhbeffjaaDoorUtf
namespace Go.Proofs.YtbdilejhbeffjaaDoor
open Go.RowKit Go.Lib
/-- A text's lines, without their ends. -/
def linesOf : Bs → List Bs
  | [] => [[]]
  | b :: t => if b = 10 then [] :: linesOf t else match linesOf t with
    | [] => [[b]]
    | x :: r => (b :: x) :: r
/-- The first line, and what stands behind. -/
theorem linesOf_run : ∀ (x t : Bs), (∀ b ∈ x, b ≠ 10) → linesOf (x ++ 10 :: t) = x :: linesOf t
  | [], t, _ => by simp [linesOf]
  | b :: x, t, h => by
    have hb : b ≠ 10 := h b (by simp)
    have ih := linesOf_run x t (fun c hc => h c (by simp [hc]))
    rw [List.cons_append, linesOf, if_neg hb, ih]
def getLine (l : Bs) (n : Int) : Option Bs := if n < 1 then none else (linesOf l)[n.toNat - 1]?
def lineV (l : Bs) (n : Int) : Value := match getLine l n with
  | some x => .tuple #[.string ⟨x.toArray⟩, .bool true]
  | none => .tuple #[.string ⟨#[]⟩, .bool false]
theorem extract_list (s : ByteArray) (a b : Nat) : s.extract a b = ⟨((s.data.toList.drop a).take (b - a)).toArray⟩ := by
  apply ByteArray.ext
  simp [ByteArray.data_extract]
  exact Array.toList_inj.1 (by simp)
theorem byteAt_ne (s : ByteArray) (a b : Nat) (_hb : b ≤ s.size) (h : ∀ j, a ≤ j → j < b → byteAt s j ≠ 10) : ∀ c ∈ (s.data.toList.drop a).take (b - a), c ≠ 10 := by
  intro c hc e
  subst e
  obtain ⟨i, hi, he⟩ := List.mem_iff_getElem.1 hc
  rw [List.length_take, List.length_drop, size_len] at hi
  rw [List.getElem_take, List.getElem_drop] at he
  refine h (a + i) (by omega) (by omega) ?_
  unfold byteAt
  rw [List.getD_eq_getElem?_getD, List.getElem?_eq_getElem (by rw [size_len]; omega), Option.getD_some, he]; rfl
end Go.Proofs.YtbdilejhbeffjaaDoor
