/- What is shown is good text: its bytes, its lines, its characters. Plain Lean: no program, no condition. Of every place where a character begins there is a mark, and what is told there is good text. Plain Lean: no program. -/
import Derived.Test.YtdphhmigbbgjmaaDoorR3
import Derived.Test.YtdphhmigbbgjmaaDoorM2
import Derived.Lib.ItoaNum
import Derived.Lib.ValidU
import Derived.Lib.ValidLaws
import Derived.Test.YtdphhmigbbgjmaaDoorRepS
import Derived.Test.YtdphhmigbbgjmaaDoorM1
section
namespace Go.Proofs.YtdphhmigbbgjmaaDoor
open Go.RowKit Go.Lib
/-- A text behind which whatever stands is as valid as alone. -/
def Vld (l : Bs) : Prop := ∀ t : Bs, validD (l ++ t) = validD t
theorem Vld.nil : Vld [] := fun _ => rfl
theorem Vld.app {a b : Bs} (ha : Vld a) (hb : Vld b) : Vld (a ++ b) := fun t => by rw [List.append_assoc, ha, hb]
theorem Vld.low : ∀ (l : Bs), (∀ b ∈ l, b.toNat < 128) → Vld l
  | [], _ => Vld.nil
  | b :: r, h => fun t => by
    rw [List.cons_append, validD_cons b _ (h b (by simp))]
    exact Vld.low r (fun c hc => h c (by simp [hc])) t
theorem Vld.all {l : Bs} (h : Vld l) : validD l = true := by
  have := h []; rw [List.append_nil] at this; rw [this]; rfl
/-- A good character, whatever stands behind it. -/
theorem dec_app (l t : Bs) (hne : l ≠ []) (hk : okC (decodeL l) = true) : decodeL (l.take (decodeL l).2 ++ t) = decodeL l := by
  have hlen : 1 ≤ l.length := by cases l with | nil => exact absurd rfl hne | cons a t => simp
  have hle := decL_le l hne
  obtain ⟨k, hkk⟩ : ∃ k, (decodeL l).2 = k := ⟨_, rfl⟩
  rw [hkk] at hle ⊢
  have h1 := decL_pos l
  rw [hkk] at h1
  have hg0 : ∀ i, i < k → (l.take k ++ t).getD i 0 = l.getD i 0 := fun i hi => by
    rw [List.getD_eq_getElem?_getD, List.getElem?_append_left (by rw [List.length_take]; omega), List.getElem?_take_of_lt hi, ← List.getD_eq_getElem?_getD]
  have hlen2 : (l.take k ++ t).length = k + t.length := by rw [List.length_append, List.length_take, Nat.min_eq_left hle]
  rw [decL_N] at hk hkk ⊢
  rw [decL_N l, hlen2, hg0 0 (by omega)]
  by_cases hg : goodN l.length (l.getD 0 0).toNat (l.getD 1 0).toNat (l.getD 2 0).toNat (l.getD 3 0).toNat
  · rcases hg with h | h | h | h
    · rw [decodeN_g1 _ _ _ _ _ h, decodeN_g1 _ _ _ _ _ h]
    · rw [decodeN_g2 _ _ _ _ _ h] at hkk ⊢
      have hkk : 2 = k := hkk
      rw [hg0 1 (by omega), decodeN_g2 _ _ _ _ _ ⟨h.1, h.2.1, by omega, h.2.2.2⟩]
    · rw [decodeN_g3 _ _ _ _ _ h] at hkk ⊢
      have hkk : 3 = k := hkk
      rw [hg0 1 (by omega), hg0 2 (by omega), decodeN_g3 _ _ _ _ _ ⟨h.1, h.2.1, by omega, h.2.2.2⟩]
    · rw [decodeN_g4 _ _ _ _ _ h] at hkk ⊢
      have hkk : 4 = k := hkk
      rw [hg0 1 (by omega), hg0 2 (by omega), hg0 3 (by omega), decodeN_g4 _ _ _ _ _ ⟨h.1, h.2.1, by omega, h.2.2.2⟩]
  · rw [decodeN_bad _ _ _ _ _ (gd_lt _ _) (gd_lt _ _) (gd_lt _ _) (gd_lt _ _) hg] at hk
    exact absurd hk (by decide)
theorem vld_fffd : Vld [239, 191, 189] := fun t => by
  have hd := dec_fffd' t
  show validD (239 :: 191 :: 189 :: t) = _
  rw [validD_step _ (by simp), hd, if_neg (by decide)]; rfl
theorem vld_enc (l : Bs) (hne : l ≠ []) : Vld (shC l) := by
  cases hk : okC (decodeL l) with
  | false => rw [shC_ref l hne, if_pos hk]; exact vld_fffd
  | true =>
    rw [shC_ref l hne, if_neg (by rw [hk]; decide)]
    split
    · exact Vld.low _ (by intro b hb; simp at hb; subst hb; decide)
    · intro t
      have hle := decL_le l hne
      have h1 := decL_pos l
      have hd := dec_app l t hne hk
      have hn2 : l.take (decodeL l).2 ++ t ≠ [] := by
        intro e; have := congrArg List.length e; rw [List.length_append, List.length_take, Nat.min_eq_left hle] at this; simp at this; omega
      rw [validD_step _ hn2, hd, if_neg (by unfold okC at hk; simp at hk; omega)]
      rw [List.drop_append, List.drop_eq_nil_of_le (by rw [List.length_take]; omega), List.length_take, Nat.min_eq_left hle, Nat.sub_self]; rfl
theorem vld_sh : ∀ (n : Nat) (l : Bs), Vld (shN n l)
  | 0, _ => Vld.nil
  | n + 1, l => by
    by_cases e : l = []
    · subst e; rw [shN_nil]; exact Vld.nil
    · rw [shN_succ _ _ e]; exact (vld_enc l e).app (vld_sh n _)
theorem enc_high (r : Int) (h : 32 ≤ r) : ∀ b ∈ encodeRune r, 32 ≤ b.toNat := by
  intro b hb
  unfold encodeRune at hb
  obtain ⟨x, hx, rfl⟩ := List.mem_map.1 hb
  have hx2 := encodeRuneZ_byte r x hx
  have : 32 ≤ x := by
    unfold encodeRuneZ at hx
    split at hx
    · simp at hx; omega
    · split at hx
      · simp at hx; omega
      · split at hx
        · simp at hx; omega
        · split at hx <;> (simp at hx; omega)
  have e : (x.toNat.toUInt8).toNat = x.toNat := by simp; omega
  omega
theorem sh_high : ∀ (n : Nat) (l : Bs), ∀ b ∈ shN n l, 32 ≤ b.toNat
  | 0, _, b, hb => by simp [shN] at hb
  | n + 1, l, b, hb => by
    by_cases e : l = []
    · subst e; rw [shN_nil] at hb; simp at hb
    · rw [shN_succ _ _ e] at hb
      rcases List.mem_append.1 hb with h | h
      · exact enc_high _ (by unfold shR; split <;> omega) b h
      · exact sh_high n _ b h
end Go.Proofs.YtdphhmigbbgjmaaDoor
end
section
namespace Go.Proofs.YtdphhmigbbgjmaaDoor
open Go.RowKit Go.Lib
theorem dig_range : ∀ (u : Nat), ∀ b ∈ decDigits u, 48 ≤ b.toNat ∧ b.toNat ≤ 57 := by
  intro u
  induction u using Nat.strongRecOn with
  | _ u ih =>
    intro b hb
    rw [decDigits] at hb
    split at hb
    · rename_i h
      rw [List.mem_singleton] at hb
      subst hb
      have : (UInt8.ofNat (48 + u)).toNat = 48 + u := by simp; omega
      omega
    · rename_i h
      rcases List.mem_append.1 hb with h1 | h1
      · exact ih (u / 10) (by omega) b h1
      · rw [List.mem_singleton] at h1
        subst h1
        have : (UInt8.ofNat (48 + u % 10)).toNat = 48 + u % 10 := by simp; omega
        omega
theorem itoa_dig (n : Nat) : ∀ b ∈ itoa (n : Int), 48 ≤ b.toNat ∧ b.toNat ≤ 57 := by
  unfold itoa; rw [if_neg (by omega)]; exact dig_range _
/-- Bytes that stand in a line, as they are shown. -/
def Sho (l : Bs) : Prop := Vld l ∧ ∀ b ∈ l, 32 ≤ b.toNat
theorem Sho.app {a b : Bs} (ha : Sho a) (hb : Sho b) : Sho (a ++ b) := ⟨ha.1.app hb.1, fun x hx => (List.mem_append.1 hx).elim (ha.2 x) (hb.2 x)⟩
theorem Sho.asc (l : Bs) (h : ∀ b ∈ l, 32 ≤ b.toNat ∧ b.toNat < 128) : Sho l := ⟨Vld.low l fun b hb => (h b hb).2, fun b hb => (h b hb).1⟩
theorem sho_itoa (n : Nat) : Sho (itoa (n : Int)) := Sho.asc _ fun b hb => by have := itoa_dig n b hb; omega
theorem sho_count {l : Bs} (h : Sho l) : l.count 10 = 0 := List.count_eq_zero.2 fun hm => by have := h.2 10 hm; revert this; decide
/-- Three lines of such bytes, with a mark at the end. -/
theorem three_good (a b c : Bs) (ha : Sho a) (hb : Sho b) (hc : Sho c) :
    (∀ x ∈ a ++ 10 :: b ++ 10 :: c ++ [94, 10], x.toNat < 32 → x = 10) ∧ (a ++ 10 :: b ++ 10 :: c ++ [94, 10]).count 10 = 3 ∧ validD (a ++ 10 :: b ++ 10 :: c ++ [94, 10]) = true := by
  refine ⟨fun x hx hlt => ?_, ?_, ?_⟩
  · simp only [List.mem_append, List.mem_cons, List.not_mem_nil, or_false] at hx
    rcases hx with ((h | h | h) | h | h) | h | h
    · have := ha.2 x h; omega
    · exact h
    · have := hb.2 x h; omega
    · exact h
    · have := hc.2 x h; omega
    · subst h; revert hlt; decide
    · exact h
  · simp only [List.count_append, List.count_cons, List.count_nil, sho_count ha, sho_count hb, sho_count hc]
    decide
  · have hv : Vld (a ++ 10 :: b ++ 10 :: c ++ [94, 10]) := by
      have h10 : Vld [10] := Vld.low _ (by intro b hb; simp at hb; subst hb; decide)
      have hm : Vld [94, 10] := Vld.low _ (by intro b hb; simp at hb; rcases hb with rfl | rfl <;> decide)
      have := (((ha.1.app h10).app hb.1).app (h10.app hc.1)).app hm
      simpa using this
    exact hv.all
/-- A place at which a character begins lies in a line, no further than behind its last character. -/
theorem line_has (s : ByteArray) (o : Nat) (h : CB s o) : ∃ x, getLine s.data.toList (nlAt s o + 1 : Nat) = some x ∧ colN s o ≤ cnt x := by
  obtain ⟨pre, hp, hl⟩ := lines_ahead s o h.1
  obtain ⟨k, r, hk, hkl, hmax⟩ := head_lines (s.data.toList.drop (fromAt s o))
  have hf := fromAt_le s o
  have hm := hmax (o - fromAt s o) (by rw [List.length_drop, size_len]; have := h.1; omega) (fun j hj e => by
    have := no_nl s o (fromAt s o + j) (by omega) (by omega)
    rw [← byteAt_drop, e] at this; exact this rfl)
  refine ⟨_, getLine_at _ pre _ r _ (by rw [hl, hk]) (by omega), ?_⟩
  have ht := h.2.take k hm hkl
  have hs := ht.split
  have e : colN s o = cnt (((s.data.toList.drop (fromAt s o)).take k).take (o - fromAt s o)) := by
    unfold colN
    rw [List.take_take, Nat.min_eq_left hm, List.drop_take]
  omega
theorem rep_blanks (M : Nat) : (blB M).data.toList = List.replicate M 32 := by
  unfold blB
  have := Lib.repeatL_replicate 32 1 M
  simpa using this
/-- What is told at such a place, of a source without a name. -/
theorem mark_list (s : ByteArray) (o : Nat) (h : CB s o) :
    ∃ a b c : Bs, Sho a ∧ Sho b ∧ Sho c ∧ (showB ⟨#[]⟩ s 1 (nlAt s o + 1 : Nat) (colN s o + 1 : Nat)).data.toList = a ++ 10 :: b ++ 10 :: c ++ [94, 10] := by
  obtain ⟨x, hx, hc⟩ := line_has s o h
  have hL : lineT s.data.toList (nlAt s o + 1 : Nat) = (⟨x.toArray⟩, true) := by unfold lineT; rw [hx]
  have hxl : (⟨x.toArray⟩ : ByteArray).data.toList = x := by simp
  obtain ⟨M, hM⟩ : ∃ M : Nat, (wid (ahN (((colN s o + 1 : Nat) : Int) - 1).toNat x)).toNat = M := ⟨_, rfl⟩
  refine ⟨[58, 32] ++ itoa ((nlAt s o + 1 : Nat) : Int) ++ [58] ++ itoa ((colN s o + 1 : Nat) : Int) ++ [58, 32, 101, 114, 114, 111, 114, 32] ++ itoa ((1 : Nat) : Int), [32, 32] ++ shN (cnt x) x, [32, 32] ++ List.replicate M 32, ?_, ?_, ?_, ?_⟩
  · have h1 : Sho [58, 32] := Sho.asc _ (by decide)
    have h2 : Sho [58] := Sho.asc _ (by decide)
    have h3 : Sho [58, 32, 101, 114, 114, 111, 114, 32] := Sho.asc _ (by decide)
    exact ((((h1.app (sho_itoa _)).app h2).app (sho_itoa _)).app h3).app (sho_itoa _)
  · exact (Sho.asc _ (by decide)).app ⟨vld_sh _ _, sh_high _ _⟩
  · exact (Sho.asc _ (by decide)).app (Sho.asc _ fun b hb => by rw [List.eq_of_mem_replicate hb]; decide)
  · unfold showB
    rw [hL, if_pos rfl]
    dsimp only
    rw [if_neg (by omega), hM]
    simp only [ByteArray.data_append, Array.toList_append, rep_blanks]
    unfold hedB itB
    simp only [ByteArray.data_append, Array.toList_append]
    simp
/-- It is good text of three lines, a mark at its end. -/
theorem mark_good (s : ByteArray) (o : Nat) (h : CB s o) :
    (∀ x ∈ (showB ⟨#[]⟩ s 1 (nlAt s o + 1 : Nat) (colN s o + 1 : Nat)).data.toList, x.toNat < 32 → x = 10) ∧ (showB ⟨#[]⟩ s 1 (nlAt s o + 1 : Nat) (colN s o + 1 : Nat)).data.toList.count 10 = 3 ∧ validD (showB ⟨#[]⟩ s 1 (nlAt s o + 1 : Nat) (colN s o + 1 : Nat)).data.toList = true ∧
      ∃ p : Bs, (showB ⟨#[]⟩ s 1 (nlAt s o + 1 : Nat) (colN s o + 1 : Nat)).data.toList = p ++ [94, 10] := by
  obtain ⟨a, b, c, ha, hb, hc, e⟩ := mark_list s o h
  rw [e]
  obtain ⟨h1, h2, h3⟩ := three_good a b c ha hb hc
  exact ⟨h1, h2, h3, _, rfl⟩
end Go.Proofs.YtdphhmigbbgjmaaDoor
end
