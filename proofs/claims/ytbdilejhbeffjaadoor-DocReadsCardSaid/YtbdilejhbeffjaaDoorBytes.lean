/- A row of bytes that the call itself appends to: the laws at this program's types. Conditions: its length is at most 2^47. -/
import Derived.Test.YtbdilejhbeffjaaDoorProg
import Derived.Test.YtbdilejhbeffjaaDoorHeap
import Derived.Lib.AppendStr
import Derived.Lib.UnsafeStr
import Derived.Laws.IdiomStrings
import Derived.Laws.BytesArg
namespace Go.Proofs.YtbdilejhbeffjaaDoor
open Go.RowKit Go.Lib

theorem infoB : (Tryd.prog.info? 5).map (fun i => (i.zero, i.size, i.bytes)) = some (some (.int .u8 0), 1, 1) := by kernel_rfl
/-- The slice v is a row of the call's own, from block B on, that holds the bytes l. -/
def Buf (w : World) (B : Nat) (v : Value) (l : List UInt8) : Prop := w.ownsRow B 5 1 v l.length (byteCells l)
theorem Buf.nil (w : World) (B : Nat) : Buf w B (.slice none 0 0) [] := World.ownsRow_nil _ _ _ _
theorem Buf.alloc {w : World} {B : Nat} {v : Value} {l : List UInt8} (h : Buf w B v l) (o : Obj) : Buf (w.alloc o) B v l := World.ownsRow.alloc h o
theorem Buf.shape {w : World} {B : Nat} {v : Value} {l : List UInt8} (h : Buf w B v l) : ∃ a cap, v = .slice a l.length cap := ownsRow_shape h
theorem Buf.lt {w : World} {B : Nat} {v : Value} {l : List UInt8} (h : Buf w B v l) : ∀ k, v.ownBlock = some k → B ≤ k ∧ k < w.heap.size := World.ownsRow.lt h
/-- It is kept by whatever keeps what lay. -/
theorem Buf.below {w w' : World} {B : Nat} {v : Value} {l : List UInt8} (h : Buf w B v l) (hb : Below w.heap.size w w') : Buf w' B v l := by
  refine ⟨h.1, ?_⟩
  rcases h.2 with h2 | ⟨g, cap, cur, h1, h2, h3, h4⟩
  · exact .inl h2
  · exact .inr ⟨g, cap, cur, h1, h2, (hb.block g (Array.getElem?_eq_some_iff.1 h3).1).trans h3, h4⟩
theorem strCells_byteCells (s : ByteArray) : strCells s = byteCells s.data.toList := rfl

/-- append(v, c): one byte. -/
theorem app_byte {w : World} {ops : Array Oper} {rest : List Oper} {o : Oper} {a : Act} {Q : Exit → Act → World → Prop} (hgd : o.guard = none) (s x : Operand)
    (ho : o.op = .call { callee := .builtin .append, args := #[s, x], argTypes := #[39, 39] }) (B : Nat) {v : Value} {l : List UInt8} (hs : a.eval s = v) (c : UInt8)
    (hown : Buf w B v l) (ad : Addr) (cp : Nat) (hx : a.eval x = .slice (some ad) 1 cp) (hc : w.cell? ad = some (.int .u8 c.toNat)) (hsz : l.length + 1 ≤ 140737488355328) (hB : B ≤ w.heap.size)
    (h : ∀ v' w', Buf w' B v' (l ++ [c]) → w.grownBy w' v.ownBlock → wpList Tryd.prog ops Q rest (a.put o.dst v') w') : wpList Tryd.prog ops Q (o :: rest) a w := by
  obtain ⟨i0, hi, hz0, hz1, hz2⟩ := info_parts infoB
  refine wpList_append_own _ hgd s x 39 ho B 5 i0 (.int .u8 0) 1 1 Tryd.underlying39 hi hz0 hz1 hz2 rfl (by decide) v l.length (byteCells l) hs hown ad 1 cp [.int .u8 c.toNat] hx rfl ?_ (by simp [Value.oneCell']) (by unfold maxLen; omega) (by omega) hB fun v' w' h1 h2 _ => h v' w' ?_ h2
  · intro j u hj
    match j, hj with
    | 0, hj => simp at hj; subst hj; simpa [Addr.add] using hc
  · unfold Buf; rw [List.length_append]; simpa [byteCells] using h1
/-- append(v, t...): a text. -/
theorem app_str {w : World} {ops : Array Oper} {rest : List Oper} {o : Oper} {a : Act} {Q : Exit → Act → World → Prop} (hgd : o.guard = none) (s x : Operand)
    (ho : o.op = .call { callee := .builtin .append, args := #[s, x], argTypes := #[39, 9] }) (B : Nat) {v : Value} {l : List UInt8} (hs : a.eval s = v) (t : ByteArray)
    (hown : Buf w B v l) (hx : a.eval x = .string t) (hsz : l.length + t.size ≤ 140737488355328) (hB : B ≤ w.heap.size)
    (h : ∀ v' w', Buf w' B v' (l ++ t.data.toList) → w.grownBy w' v.ownBlock → wpList Tryd.prog ops Q rest (a.put o.dst v') w') : wpList Tryd.prog ops Q (o :: rest) a w := by
  obtain ⟨i0, hi, hz0, hz1, hz2⟩ := info_parts infoB
  refine wpList_append_own_string _ hgd s x 39 9 ho B 5 i0 Tryd.underlying39 Tryd.underlying9 hi hz0 hz1 hz2 v l.length (byteCells l) hs hown t hx (by unfold maxLen; omega) hsz hB fun v' w' h1 h2 _ => h v' w' ?_ h2
  unfold Buf; rw [List.length_append]; simp only [byteCells, List.map_append, Array.length_toList] at h1 ⊢; exact h1
/-- string(v). -/
theorem buf_string {w : World} {B : Nat} {v : Value} {l : List UInt8} (h : Buf w B v l) : (convert 39 9 v).run Tryd.prog w = .ok (.string ⟨l.toArray⟩) w := by
  rcases h.2 with ⟨rfl, h0⟩ | ⟨g, cap, cur, rfl, hB, hg, hle, hm, hs, ht⟩
  · have : l = [] := List.length_eq_zero_iff.1 h0
    subst this
    exact run_convert_bytes_nil (P := Tryd.prog) (w := w) 39 5 Tryd.underlying39 Tryd.underlying5 0 0 _ Tryd.underlying9
  · refine run_convert_bytes_back w 39 9 5 ⟨g, 0, none⟩ cap l Tryd.underlying39 Tryd.underlying5 Tryd.underlying9 fun j hj => ?_
    have hc := World.ownsRow.cells h (g := g) rfl j (.int .u8 (l[j].toNat : Int)) (by simp [byteCells, hj])
    exact hc
end Go.Proofs.YtbdilejhbeffjaaDoor
