/- Lines and columns of the characters of a text, in plain Lean. No program; conditions: places within the text. -/
import Derived.Test.YtgjlpkocieffeaaDoorBnd
namespace Go.Proofs.YtgjlpkocieffeaaDoor
open Go.RowKit Go.Lib
def colN (s : ByteArray) (o : Nat) : Nat := cnt ((s.data.toList.take o).drop (fromAt s o))
/-- Does a character begin at place o, counted from its line's beginning? -/
def CB (s : ByteArray) (o : Nat) : Prop := o ≤ s.size ∧ IsB (s.data.toList.drop (fromAt s o)) (o - fromAt s o)
theorem CB_zero (s : ByteArray) : CB s 0 := ⟨Nat.zero_le _, .zero _⟩
theorem same_line (s : ByteArray) (a : Nat) : ∀ n, (∀ j, a ≤ j → j < a + n → byteAt s j ≠ 10) → nlAt s (a + n) = nlAt s a ∧ fromAt s (a + n) = fromAt s a
  | 0, _ => ⟨rfl, rfl⟩
  | n + 1, h => by
    have ih := same_line s a n (fun j h1 h2 => h j h1 (by omega))
    have hb := h (a + n) (by omega) (by omega)
    rw [← Nat.add_assoc, nlAt, fromAt, if_neg hb, if_neg hb]; exact ih
theorem no_nl (s : ByteArray) : ∀ o j, fromAt s o ≤ j → j < o → byteAt s j ≠ 10
  | 0, j, _, h => by omega
  | o + 1, j, h1, h2 => by
    unfold fromAt at h1
    split at h1
    · omega
    · by_cases e : j = o
      · subst e; assumption
      · exact no_nl s o j h1 (by omega)
theorem byteAt_drop (s : ByteArray) (a j : Nat) : ((s.data.toList.drop a).getD j 0).toNat = byteAt s (a + j) := by
  unfold byteAt; rw [List.getD_eq_getElem?_getD, List.getElem?_drop, ← List.getD_eq_getElem?_getD]
theorem CB_step (s : ByteArray) (o : Nat) (h : CB s o) (ho : o < s.size) : CB s (o + (Utf8.decode s o).2) ∧
    (byteAt s o = 10 → (Utf8.decode s o).2 = 1 ∧ nlAt s (o + (Utf8.decode s o).2) = nlAt s o + 1 ∧ colN s (o + (Utf8.decode s o).2) = 0) ∧
    (byteAt s o ≠ 10 → nlAt s (o + (Utf8.decode s o).2) = nlAt s o ∧ colN s (o + (Utf8.decode s o).2) = colN s o + 1) := by
  have hd := decodeL_drop s o
  have hle := dec_le s o ho
  have hne := drop_ne s o ho
  have hpos := dec_pos s o
  have hfo := fromAt_le s o
  by_cases h10 : byteAt s o = 10
  · have e1 : (Utf8.decode s o).2 = 1 := by rw [dec_at, decodeN_g1 _ _ _ _ _ (by omega)]
    have e2 : fromAt s (o + 1) = o + 1 := by unfold fromAt; rw [if_pos h10]
    rw [e1]
    refine ⟨⟨by omega, by rw [e2, Nat.sub_self]; exact .zero _⟩, fun _ => ⟨rfl, by rw [nlAt, if_pos h10], ?_⟩, fun c => absurd h10 c⟩
    unfold colN; rw [e2, List.drop_eq_nil_of_le (by rw [List.length_take]; omega), cnt_nil]
  · have hno : ∀ j, o ≤ j → j < o + (Utf8.decode s o).2 → byteAt s j ≠ 10 := fun j j1 j2 => by
      by_cases e : j = o
      · subst e; exact h10
      · have := dec_high (s.data.toList.drop o) (j - o) (by omega) (by rw [hd]; omega)
        rw [byteAt_drop, show o + (j - o) = j by omega] at this; omega
    obtain ⟨n1, n2⟩ := same_line s o _ hno
    have hdd : (s.data.toList.drop (fromAt s o)).drop (o - fromAt s o) = s.data.toList.drop o := by rw [List.drop_drop]; congr 1; omega
    have hnext := h.2.next (by rw [hdd]; exact hne)
    rw [hdd, hd] at hnext
    refine ⟨⟨hle, by rw [n2, show o + (Utf8.decode s o).2 - fromAt s o = o - fromAt s o + (Utf8.decode s o).2 by omega]; exact hnext⟩, fun c => absurd c h10, fun _ => ⟨n1, ?_⟩⟩
    unfold colN
    rw [n2, List.drop_take, List.drop_take]
    have hlen : (s.data.toList.drop (fromAt s o)).length = s.size - fromAt s o := by rw [List.length_drop, size_len]
    have hB : IsB ((s.data.toList.drop (fromAt s o)).take (o + (Utf8.decode s o).2 - fromAt s o)) (o - fromAt s o) := h.2.take _ (by omega) (by omega)
    rw [hB.split, List.take_take, Nat.min_eq_left (by omega), List.drop_take, hdd, show o + (Utf8.decode s o).2 - fromAt s o - (o - fromAt s o) = (Utf8.decode s o).2 by omega, ← hd, cnt_char _ hne]
theorem nlAt_congr (s t : ByteArray) : ∀ o, (∀ j, j < o → byteAt s j = byteAt t j) → nlAt s o = nlAt t o ∧ fromAt s o = fromAt t o
  | 0, _ => ⟨rfl, rfl⟩
  | o + 1, h => by
    have ih := nlAt_congr s t o (fun j hj => h j (by omega))
    unfold nlAt fromAt
    rw [h o (by omega), ih.1, ih.2]; exact ⟨rfl, rfl⟩
theorem extract0_list (s : ByteArray) (o : Nat) : (s.extract 0 o).data.toList = s.data.toList.take o := by rw [extract_list]; simp
theorem byteAt_extract0 (s : ByteArray) (o j : Nat) (h : j < o) : byteAt (s.extract 0 o) j = byteAt s j := by
  unfold byteAt; rw [extract0_list, getD_take _ _ _ h]
theorem colN_le (s : ByteArray) (o : Nat) : colN s o ≤ o := by
  unfold colN; have := cnt_le ((s.data.toList.take o).drop (fromAt s o)); rw [List.length_drop, List.length_take] at this; omega
/-- The place so many bytes into a text. -/
theorem adv_at (s : ByteArray) (o : Nat) (h : o ≤ s.size) (hs : s.size < 4611686018427387904) : advV 0 1 1 (s.extract 0 o) = .agg #[.int .i64 o, .int .i64 (nlAt s o + 1 : Nat), .int .i64 (colN s o + 1 : Nat)] := by
  have hz : (s.extract 0 o).size = o := by simp; omega
  obtain ⟨e1, e2⟩ := nlAt_congr (s.extract 0 o) s o (fun j hj => byteAt_extract0 s o j hj)
  have h1 := nlAt_le s o
  have h2 := colN_le s o
  unfold advV tailC
  rw [hz, e1, e2, extract0_list]
  have e3 : colI (nlAt s o) 1 = 1 := by unfold colI; split <;> rfl
  rw [e3]
  have w1 : wrap64 (0 + (o : Int)) = o := by unfold wrap64; omega
  have w2 : wrap64 (1 + (nlAt s o : Int)) = (nlAt s o + 1 : Nat) := by unfold wrap64; omega
  have w3 : wrap64 (1 + (colN s o : Int)) = (colN s o + 1 : Nat) := by unfold wrap64; omega
  unfold colN at w3 ⊢
  rw [w1, w2, w3]
/-- The lines ahead of a place. -/
theorem lines_ahead (s : ByteArray) : ∀ o, o ≤ s.size → ∃ pre, pre.length = nlAt s o ∧ linesOf s.data.toList = pre ++ linesOf (s.data.toList.drop (fromAt s o))
  | 0, _ => ⟨[], rfl, rfl⟩
  | o + 1, h => by
    obtain ⟨pre, h1, h2⟩ := lines_ahead s o (by omega)
    by_cases h10 : byteAt s o = 10
    · refine ⟨pre ++ [(s.data.toList.drop (fromAt s o)).take (o - fromAt s o)], by rw [nlAt, if_pos h10]; simp [h1], ?_⟩
      rw [fromAt, if_pos h10, h2, lines_nl s (fromAt s o) o (fromAt_le s o) (by omega) (no_nl s o) h10]; simp
    · exact ⟨pre, by rw [nlAt, if_neg h10]; exact h1, by rw [fromAt, if_neg h10]; exact h2⟩
theorem head_lines : ∀ l : Bs, ∃ k r, linesOf l = l.take k :: r ∧ k ≤ l.length ∧ ∀ m, m ≤ l.length → (∀ j, j < m → l.getD j 0 ≠ 10) → m ≤ k
  | [] => ⟨0, [], rfl, Nat.le_refl _, fun m h _ => h⟩
  | b :: t => by
    obtain ⟨k, r, h1, h2, h3⟩ := head_lines t
    by_cases hb : b = 10
    · refine ⟨0, linesOf t, by rw [linesOf, if_pos hb]; rfl, Nat.zero_le _, fun m _ h => ?_⟩
      cases m with
      | zero => exact Nat.le_refl _
      | succ m => exact absurd hb (h 0 (by omega))
    · refine ⟨k + 1, r, by rw [linesOf, if_neg hb, h1]; rfl, by simp; omega, fun m hm h => ?_⟩
      cases m with
      | zero => omega
      | succ m => have := h3 m (by simp at hm; omega) (fun j hj => h (j + 1) (by omega)); omega
/-- The line in which a character stands has the characters ahead of it, and it. -/
theorem line_at (s : ByteArray) (o : Nat) (h : CB s o) (ho : o < s.size) (h10 : byteAt s o ≠ 10) : ∃ x, getLine s.data.toList (nlAt s o + 1 : Nat) = some x ∧ colN s o + 1 ≤ cnt x ∧ x.length ≤ s.size := by
  obtain ⟨pre, h1, h2⟩ := lines_ahead s o (by omega)
  obtain ⟨k, r, k1, k2, k3⟩ := head_lines (s.data.toList.drop (fromAt s o))
  have hfo := fromAt_le s o
  rw [k1] at h2
  refine ⟨_, getLine_at _ _ _ _ _ h2 (by rw [h1]; simp), ?_, by have := k2; rw [List.length_drop, size_len] at this; rw [List.length_take]; omega⟩
  rw [List.length_drop, size_len] at k2 k3
  have hk : o - fromAt s o + 1 ≤ k := k3 _ (by omega) fun j hj e => by
    have : byteAt s (fromAt s o + j) = 10 := by rw [← byteAt_drop, e]; rfl
    by_cases ej : fromAt s o + j = o
    · rw [ej] at this; exact h10 this
    · exact no_nl s o _ (by omega) (by omega) this
  have hB : IsB ((s.data.toList.drop (fromAt s o)).take k) (o - fromAt s o) := h.2.take k (by omega) (by rw [List.length_drop, size_len]; exact k2)
  rw [hB.split, List.take_take, Nat.min_eq_left (by omega), List.drop_take]
  have : 1 ≤ cnt (List.take (k - (o - fromAt s o)) (List.drop (o - fromAt s o) (List.drop (fromAt s o) s.data.toList))) := cnt_pos _ (take_ne (by rw [List.drop_drop]; exact drop_ne _ _ (by omega)) (by omega))
  unfold colN
  rw [List.drop_take]; omega

end Go.Proofs.YtgjlpkocieffeaaDoor
