/- Characters as they are shown: a character's code written again is its bytes; a text's characters with controls shown as blanks, all and the first so many. Plain Lean: no program, no condition. -/
import Derived.Test.YtdphhmigbbgjmaaDoorM1
import Derived.Lib.RuneBytes
namespace Go.Proofs.YtdphhmigbbgjmaaDoor
open Go.RowKit Go.Lib
theorem toU (b : UInt8) (x : Int) (h : x = b.toNat) : x.toNat.toUInt8 = b := by subst h; simp
theorem take_gd (l : Bs) (h : 1 ≤ l.length) : l.take 1 = [l.getD 0 0] := by
  match l, h with
  | a :: _, _ => rfl
theorem take_gd2 (l : Bs) (h : 2 ≤ l.length) : l.take 2 = [l.getD 0 0, l.getD 1 0] := by
  match l, h with
  | a :: b :: _, _ => rfl
theorem take_gd3 (l : Bs) (h : 3 ≤ l.length) : l.take 3 = [l.getD 0 0, l.getD 1 0, l.getD 2 0] := by
  match l, h with
  | a :: b :: c :: _, _ => rfl
theorem take_gd4 (l : Bs) (h : 4 ≤ l.length) : l.take 4 = [l.getD 0 0, l.getD 1 0, l.getD 2 0, l.getD 3 0] := by
  match l, h with
  | a :: b :: c :: d :: _, _ => rfl
/-- A good character's code, written again, is its bytes. -/
theorem enc_dec (l : Bs) (hne : l ≠ []) (hk : okC (decodeL l) = true) : encodeRune ((decodeL l).1 : Int) = l.take (decodeL l).2 := by
  have hlen : 1 ≤ l.length := by cases l with | nil => exact absurd rfl hne | cons a t => simp
  have hle := decL_le l hne
  rw [decL_N] at hk hle ⊢
  by_cases hg : goodN l.length (l.getD 0 0).toNat (l.getD 1 0).toNat (l.getD 2 0).toNat (l.getD 3 0).toNat
  · rcases hg with h | h | h | h
    · rw [decodeN_g1 _ _ _ _ _ h]
      show encodeRune ((l.getD 0 0).toNat : Int) = l.take 1
      rw [take_gd l hlen]
      unfold encodeRune
      rw [encodeRuneZ_one (by omega) (by omega)]
      simp only [List.map_cons, List.map_nil]
      rw [toU (l.getD 0 0) _ rfl]
    · rw [decodeN_g2 _ _ _ _ _ h]
      show encodeRune ((64 * ((l.getD 0 0).toNat % 32) + (l.getD 1 0).toNat % 64 : Nat) : Int) = l.take 2
      rw [take_gd2 l (by omega)]
      have h1 := gd_lt l 1
      unfold encodeRune
      rw [encodeRuneZ_two (by omega) (by omega)]
      simp only [List.map_cons, List.map_nil]
      rw [toU (l.getD 0 0) _ (by omega), toU (l.getD 1 0) _ (by omega)]
    · rw [decodeN_g3 _ _ _ _ _ h]
      show encodeRune ((64 * (64 * ((l.getD 0 0).toNat % 16) + (l.getD 1 0).toNat % 64) + (l.getD 2 0).toNat % 64 : Nat) : Int) = l.take 3
      rw [take_gd3 l (by omega)]
      unfold secP at h
      unfold encodeRune
      rw [encodeRuneZ_three (by omega)]
      simp only [List.map_cons, List.map_nil]
      rw [toU (l.getD 0 0) _ (by omega), toU (l.getD 1 0) _ (by omega), toU (l.getD 2 0) _ (by omega)]
    · rw [decodeN_g4 _ _ _ _ _ h]
      show encodeRune ((64 * (64 * (64 * ((l.getD 0 0).toNat % 8) + (l.getD 1 0).toNat % 64) + (l.getD 2 0).toNat % 64) + (l.getD 3 0).toNat % 64 : Nat) : Int) = l.take 4
      rw [take_gd4 l (by omega)]
      unfold secP at h
      unfold encodeRune
      rw [encodeRuneZ_four (by omega) (by omega)]
      simp only [List.map_cons, List.map_nil]
      rw [toU (l.getD 0 0) _ (by omega), toU (l.getD 1 0) _ (by omega), toU (l.getD 2 0) _ (by omega), toU (l.getD 3 0) _ (by omega)]
  · rw [decodeN_bad _ _ _ _ _ (gd_lt _ _) (gd_lt _ _) (gd_lt _ _) (gd_lt _ _) hg] at hk
    exact absurd hk (by decide)
/-- A bad one's code is the replacement's. -/
theorem enc_bad (l : Bs) (hk : okC (decodeL l) = false) : decodeL l = (65533, 1) := by
  unfold okC at hk
  simp at hk
  exact Prod.ext hk.1 hk.2
theorem enc_fffd : encodeRune 65533 = [239, 191, 189] := by decide
theorem enc_blank : encodeRune 32 = [32] := by decide
theorem enc_len (r : Int) : 1 ≤ (encodeRune r).length ∧ (encodeRune r).length ≤ 4 := by
  have := runeCells_le r; rwa [runeCells_length] at this
/-- How a character is shown. -/
def shR (p : Int) : Int := if p < 32 ∨ p = 127 then 32 else p
def shC (l : Bs) : Bs := encodeRune (shR ((decodeL l).1 : Int))
theorem shC_len (l : Bs) : (shC l).length ≤ 4 := (enc_len _).2
/-- The first n characters, as they are shown. -/
def shN : Nat → Bs → Bs
  | 0, _ => []
  | n + 1, l => if l = [] then [] else shC l ++ shN n (l.drop (decodeL l).2)
theorem shN_zero (l : Bs) : shN 0 l = [] := rfl
theorem shN_nil : ∀ n, shN n [] = []
  | 0 => rfl
  | _ + 1 => by simp [shN]
theorem shN_succ (n : Nat) (l : Bs) (h : l ≠ []) : shN (n + 1) l = shC l ++ shN n (l.drop (decodeL l).2) := by
  rw [shN, if_neg h]
/-- Once all are shown, more of them are none. -/
theorem shN_more : ∀ (n : Nat) (l : Bs), cnt l ≤ n → shN n l = shN (cnt l) l
  | 0, l, h => by rw [show cnt l = 0 by omega]
  | n + 1, l, h => by
    by_cases e : l = []
    · subst e; rw [shN_nil, shN_nil]
    · have hs := cnt_step l e
      rw [hs, Nat.add_comm 1, shN_succ _ _ e, shN_succ _ _ e, shN_more n _ (by omega)]
theorem shN_len : ∀ (n : Nat) (l : Bs), (shN n l).length ≤ 4 * n
  | 0, _ => by simp [shN]
  | n + 1, l => by
    by_cases e : l = []
    · subst e; rw [shN_nil]; simp
    · rw [shN_succ _ _ e, List.length_append]
      have := shC_len l
      have := shN_len n (l.drop (decodeL l).2)
      omega
theorem shN_at (s : ByteArray) (p n : Nat) (h : p < s.size) : shN (n + 1) (s.data.toList.drop p) = encodeRune (shR ((Utf8.decode s p).1 : Int)) ++ shN n (s.data.toList.drop (p + (Utf8.decode s p).2)) := by
  rw [shN_succ _ _ (drop_ne s p h), List.drop_drop, shC, decodeL_drop]
theorem shN_end (s : ByteArray) (p n : Nat) (h : s.size ≤ p) : shN n (s.data.toList.drop p) = [] := by
  rw [List.drop_eq_nil_of_le (by rw [size_len]; exact h), shN_nil]
/-- The reference's way to show a character, over its own bytes. -/
theorem shC_ref (l : Bs) (hne : l ≠ []) : shC l = if okC (decodeL l) = false then [239, 191, 189] else if ((decodeL l).1 : Int) < 32 ∨ ((decodeL l).1 : Int) = 127 then [32] else l.take (decodeL l).2 := by
  unfold shC shR
  cases hk : okC (decodeL l) with
  | false =>
    rw [enc_bad l hk]
    exact enc_fffd
  | true =>
    simp only [Bool.true_eq_false, if_false]
    split
    · exact enc_blank
    · exact enc_dec l hne hk
end Go.Proofs.YtdphhmigbbgjmaaDoor
