/- report.shown: a line as it is shown, and its first so many characters. Conditions: the line has at most 2^40 bytes; the number is none below zero nor beyond its characters. -/
import Derived.Test.YtdphhmigbbgjmaaDoorEnc
import Derived.Test.YtdphhmigbbgjmaaDoorBuild
import Derived.Test.YtdphhmigbbgjmaaDoorShelf
import Derived.Test.YtdphhmigbbgjmaaDoorM1
import Derived.Laws.RangeString
import Derived.Laws.RangeAny
import Derived.Deep.LoopGhost
import Derived.OwnWalk
import Derived.Lib.OthersKept
import Derived.WalkSmall
import Derived.Lib.Hide
namespace Go.Proofs.YtdphhmigbbgjmaaDoor
open Go.RowKit Go.Lib
set_option linter.unusedVariables false
abbrev TBd : TypeId := 139
abbrev TUd : TypeId := 5
theorem bd_new (B : Nat) (w : World) (h : B ≤ w.heap.size) : Lib.IsBuilderF TBd TUd B w.heap.size [] (w.alloc (.cells #[.pointer none, .slice none 0 0] TBd)) :=
  .of (.inl ⟨h, .slice none 0 0, by show (w.heap.push _)[w.heap.size]? = _; rw [Array.getElem?_push, if_pos rfl], World.ownsRow_nil _ _ _ _, by simp [Value.ownBlock]⟩)
/-- What has been written when pos bytes are read: k characters. -/
def ShI (s : ByteArray) (n pos k : Nat) (acc : Bs) : Prop :=
  pos ≤ s.size ∧ k ≤ pos ∧ k + cnt (s.data.toList.drop pos) = cnt s.data.toList ∧ acc.length ≤ 4 * k ∧ acc ++ shN (cnt s.data.toList - k) (s.data.toList.drop pos) = shN (cnt s.data.toList) s.data.toList ∧ (k ≤ n → shN n s.data.toList = acc ++ shN (n - k) (s.data.toList.drop pos))
theorem shI_start (s : ByteArray) (n : Nat) : ShI s n 0 0 [] := ⟨Nat.zero_le _, Nat.le_refl _, by simp, by simp, by simp, fun _ => by simp⟩
theorem shI_step {s : ByteArray} {n pos k : Nat} {acc : Bs} (h : ShI s n pos k acc) (hp : pos < s.size) : ShI s n (pos + (Utf8.decode s pos).2) (k + 1) (acc ++ encodeRune (shR ((Utf8.decode s pos).1 : Int))) := by
  obtain ⟨h1, h2, h3, h4, h5, h6⟩ := h
  have hd := dec_le s pos hp
  have hd1 := dec_pos s pos
  have hc := cnt_at s pos hp
  have hl := (enc_len (shR ((Utf8.decode s pos).1 : Int))).2
  refine ⟨hd, by omega, by omega, by rw [List.length_append]; omega, ?_, fun hk => ?_⟩
  · rw [← h5, show cnt s.data.toList - k = (cnt s.data.toList - (k + 1)) + 1 by omega, shN_at s pos _ hp, List.append_assoc]
  · rw [h6 (by omega), show n - k = (n - (k + 1)) + 1 by omega, shN_at s pos _ hp, List.append_assoc]
theorem shI_end {s : ByteArray} {n pos k : Nat} {acc : Bs} (h : ShI s n pos k acc) (hp : ¬ pos < s.size) : acc = shN (cnt s.data.toList) s.data.toList ∧ k = cnt s.data.toList ∧ (k = n → acc = shN n s.data.toList) := by
  obtain ⟨h1, h2, h3, h4, h5, h6⟩ := h
  have hc := cnt_end s pos (by omega)
  rw [shN_end s pos _ (by omega), List.append_nil] at h5
  exact ⟨h5, by omega, fun e => by rw [h6 (by omega), shN_end s pos _ (by omega), List.append_nil]⟩
theorem shI_at {s : ByteArray} {n pos k : Nat} {acc : Bs} (h : ShI s n pos k acc) (e : k = n) : acc = shN n s.data.toList := by
  rw [h.2.2.2.2.2 (by omega), e, Nat.sub_self, shN_zero, List.append_nil]
theorem rune_hi (s : ByteArray) (p : Nat) : (Utf8.decode s p).1 ≤ 1114111 := by have := Lib.rune_le s p; omega
/-- What the walk knows of the world between two rounds. -/
structure ShW (w : World) (s : ByteArray) (pos : Nat) (acc : Bs) (W : World) : Prop where
  it : W.heap[w.heap.size + 1]? = some (.stringIter s pos)
  bd : Lib.IsBuilderF TBd TUd w.heap.size w.heap.size (Lib.byteCells acc) W
  lo : Below w.heap.size w W
theorem ShW.string {w : World} {s : ByteArray} {pos : Nat} {acc : Bs} {W : World} (h : ShW w s pos acc W) :
    Calls Tryd.prog 105 #[.pointer (some ⟨w.heap.size, 0, none⟩)] W fun e W' => e = .returned (.string ⟨acc.toArray⟩) ∧ ShW w s pos acc W' :=
  (Tryd.Builder_String_any_k w.heap.size w.heap.size acc W h.bd h.lo.size).mono fun e W' ⟨h1, h2, h3, h4⟩ => ⟨h1, h4.iter h.it (by omega), h2, h.lo.trans h3⟩
theorem ShW.rune {w : World} {s : ByteArray} {pos : Nat} {acc : Bs} {W : World} (h : ShW w s pos acc W) (r : Int) (h0 : 0 ≤ r) (h1 : r ≤ 1114111) (hl : acc.length ≤ 1099511627776 * 4) :
    Calls Tryd.prog 106 #[.pointer (some ⟨w.heap.size, 0, none⟩), .int .i32 r] W fun e W' => e = .returned (.tuple #[.int .i64 (Lib.runeCells r).length, .nilIface]) ∧ ShW w s pos (acc ++ encodeRune r) W' :=
  (Tryd.Builder_WriteRune_k w.heap.size w.heap.size (Lib.byteCells acc) r (by omega) (by omega) W h.bd (by rw [Lib.byteCells_length]; omega) h.lo.size).mono fun e W' ⟨h1, h2, h3, h4⟩ => ⟨h1, h4.iter h.it (by omega), by
    have := h2; rw [← Lib.byteCells_encodeRune] at this
    rw [show Lib.byteCells (acc ++ encodeRune r) = Lib.byteCells acc ++ Lib.byteCells (encodeRune r) by simp [Lib.byteCells]]
    exact .inr this, h.lo.trans h3⟩
theorem ShW.next {w : World} {s : ByteArray} {pos : Nat} {acc : Bs} {W : World} (h : ShW w s pos acc W) (pos' : Nat) : ShW w s pos' acc (W.iterAt (w.heap.size + 1) s pos') :=
  ⟨Lib.iterAt_heap W _ s pos pos' h.it, h.bd.iterAt h.it pos', Lib.below_iterAt h.lo (by omega) s pos'⟩
end Go.Proofs.YtdphhmigbbgjmaaDoor
