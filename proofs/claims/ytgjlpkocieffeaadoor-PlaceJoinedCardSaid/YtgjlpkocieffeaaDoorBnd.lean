/- Beginnings of characters in a list of bytes, in plain Lean: decoding in a beginning of a text, counting across a character's border. No program; no condition. -/
import Derived.Test.YtgjlpkocieffeaaDoorGlue
import Derived.Test.YtgjlpkocieffeaaDoorDec
namespace Go.Proofs.YtgjlpkocieffeaaDoor
open Go.RowKit Go.Lib
theorem getD_take (l : Bs) (k i : Nat) (h : i < k) : (l.take k).getD i 0 = l.getD i 0 := by
  simp [List.getD_eq_getElem?_getD, h]
theorem take_ne {l : Bs} {k : Nat} (h : l ≠ []) (hk : 0 < k) : l.take k ≠ [] := by
  cases l with
  | nil => exact absurd rfl h
  | cons b t => cases k with | zero => omega | succ k => simp
theorem decL_N (l : Bs) : decodeL l = decodeN l.length (l.getD 0 0).toNat (l.getD 1 0).toNat (l.getD 2 0).toNat (l.getD 3 0).toNat := decodeL_N l
theorem gd_lt (l : Bs) (i : Nat) : (l.getD i 0).toNat < 256 := UInt8.toNat_lt _
/-- A character is decoded alike in whatever beginning holds it whole. -/
theorem dec_take (l : Bs) (k : Nat) (hk : (decodeL l).2 ≤ k) (hl : k ≤ l.length) : decodeL (l.take k) = decodeL l := by
  have h1 := decL_pos l
  rw [decL_N] at hk h1 ⊢
  rw [decL_N, List.length_take, Nat.min_eq_left hl, getD_take l k 0 (by omega)]
  by_cases hg : goodN l.length (l.getD 0 0).toNat (l.getD 1 0).toNat (l.getD 2 0).toNat (l.getD 3 0).toNat
  · rcases hg with h | h | h | h
    · rw [decodeN_g1 _ _ _ _ _ h, decodeN_g1 _ _ _ _ _ h]
    · rw [decodeN_g2 _ _ _ _ _ h] at hk ⊢
      have hk : 2 ≤ k := hk
      rw [getD_take l k 1 (by omega), decodeN_g2 _ _ _ _ _ ⟨h.1, h.2.1, hk, h.2.2.2⟩]
    · rw [decodeN_g3 _ _ _ _ _ h] at hk ⊢
      have hk : 3 ≤ k := hk
      rw [getD_take l k 1 (by omega), getD_take l k 2 (by omega), decodeN_g3 _ _ _ _ _ ⟨h.1, h.2.1, hk, h.2.2.2⟩]
    · rw [decodeN_g4 _ _ _ _ _ h] at hk ⊢
      have hk : 4 ≤ k := hk
      rw [getD_take l k 1 (by omega), getD_take l k 2 (by omega), getD_take l k 3 (by omega), decodeN_g4 _ _ _ _ _ ⟨h.1, h.2.1, hk, h.2.2.2⟩]
  · rw [decodeN_bad _ _ _ _ _ (gd_lt _ _) (gd_lt _ _) (gd_lt _ _) (gd_lt _ _) hg]
    refine decodeN_bad _ _ _ _ _ (gd_lt _ _) (gd_lt _ _) (gd_lt _ _) (gd_lt _ _) fun h => hg ?_
    rcases h with h | h | h | h
    · exact .inl h
    · rw [getD_take l k 1 (by omega)] at h; exact .inr (.inl ⟨h.1, h.2.1, by omega, h.2.2.2⟩)
    · rw [getD_take l k 1 (by omega), getD_take l k 2 (by omega)] at h; exact .inr (.inr (.inl ⟨h.1, h.2.1, by omega, h.2.2.2⟩))
    · rw [getD_take l k 1 (by omega), getD_take l k 2 (by omega), getD_take l k 3 (by omega)] at h; exact .inr (.inr (.inr ⟨h.1, h.2.1, by omega, h.2.2.2⟩))
/-- A character's bytes behind its first are none of ASCII's. -/
theorem dec_high (l : Bs) (i : Nat) (h1 : 1 ≤ i) (h2 : i < (decodeL l).2) : 128 ≤ (l.getD i 0).toNat ∧ 128 ≤ (l.getD 0 0).toNat := by
  rw [decL_N] at h2
  by_cases hg : goodN l.length (l.getD 0 0).toNat (l.getD 1 0).toNat (l.getD 2 0).toNat (l.getD 3 0).toNat
  · rcases hg with h | h | h | h
    · rw [decodeN_g1 _ _ _ _ _ h] at h2; simp at h2; omega
    · rw [decodeN_g2 _ _ _ _ _ h] at h2
      have h2 : i < 2 := h2
      obtain rfl : i = 1 := by omega
      exact ⟨by omega, by omega⟩
    · rw [decodeN_g3 _ _ _ _ _ h] at h2
      have h2 : i < 3 := h2
      obtain rfl | rfl : i = 1 ∨ i = 2 := by omega
      · exact ⟨by omega, by omega⟩
      · exact ⟨by omega, by omega⟩
    · rw [decodeN_g4 _ _ _ _ _ h] at h2
      have h2 : i < 4 := h2
      obtain rfl | rfl | rfl : i = 1 ∨ i = 2 ∨ i = 3 := by omega
      · exact ⟨by omega, by omega⟩
      · exact ⟨by omega, by omega⟩
      · exact ⟨by omega, by omega⟩
  · rw [decodeN_bad _ _ _ _ _ (gd_lt _ _) (gd_lt _ _) (gd_lt _ _) (gd_lt _ _) hg] at h2; simp at h2; omega
/-- Does a character begin (or all end) at place o? -/
inductive IsB : Bs → Nat → Prop
  | zero (l : Bs) : IsB l 0
  | step (l : Bs) (o : Nat) (h : l ≠ []) (r : IsB (l.drop (decodeL l).2) o) : IsB l ((decodeL l).2 + o)
theorem IsB.le {l : Bs} {o : Nat} (h : IsB l o) : o ≤ l.length := by
  induction h with
  | zero l => exact Nat.zero_le _
  | step l o h r ih => have := decL_le l h; rw [List.length_drop] at ih; omega
theorem IsB.next {l : Bs} {o : Nat} (h : IsB l o) (hne : l.drop o ≠ []) : IsB l (o + (decodeL (l.drop o)).2) := by
  induction h with
  | zero l => have := IsB.step l 0 (by simpa using hne) (IsB.zero _); simpa using this
  | step l o h r ih =>
    rw [← List.drop_drop] at hne ⊢
    have := IsB.step l _ h (ih hne)
    rwa [← Nat.add_assoc] at this
theorem IsB.take {l : Bs} {o : Nat} (h : IsB l o) : ∀ k, o ≤ k → k ≤ l.length → IsB (l.take k) o := by
  induction h with
  | zero l => intro k _ _; exact .zero _
  | step l o h r ih =>
    intro k h1 h2
    have h3 := decL_pos l
    have e := dec_take l k (by omega) h2
    have hne : l.take k ≠ [] := take_ne h (by omega)
    have := ih (k - (decodeL l).2) (by omega) (by rw [List.length_drop]; omega)
    have r2 : IsB ((l.take k).drop (decodeL (l.take k)).2) o := by rw [e, List.drop_take]; exact this
    have r3 := IsB.step _ _ hne r2
    rwa [e] at r3
/-- Characters ahead of such a place, and from it on. -/
theorem IsB.split {l : Bs} {o : Nat} (h : IsB l o) : cnt l = cnt (l.take o) + cnt (l.drop o) := by
  induction h with
  | zero l => simp [cnt_nil]
  | step l o h r ih =>
    have h3 := decL_pos l
    have h4 := r.le
    have h5 := decL_le l h
    rw [List.length_drop] at h4
    have e := dec_take l ((decodeL l).2 + o) (by omega) (by omega)
    have hne : l.take ((decodeL l).2 + o) ≠ [] := take_ne h (by omega)
    rw [cnt_step l h, cnt_step _ hne, e, List.drop_take, ih, List.drop_drop, Nat.add_sub_cancel_left]; omega
theorem cnt_pos (l : Bs) (h : l ≠ []) : 1 ≤ cnt l := by rw [cnt_step l h]; omega
theorem cnt_char (l : Bs) (h : l ≠ []) : cnt (l.take (decodeL l).2) = 1 := by
  have h1 := decL_pos l; have h2 := decL_le l h
  have e := dec_take l _ (Nat.le_refl _) h2
  have hne : l.take (decodeL l).2 ≠ [] := take_ne h (by omega)
  rw [cnt_step _ hne, e, List.drop_take, Nat.sub_self, List.take_zero, cnt_nil]

end Go.Proofs.YtgjlpkocieffeaaDoor
