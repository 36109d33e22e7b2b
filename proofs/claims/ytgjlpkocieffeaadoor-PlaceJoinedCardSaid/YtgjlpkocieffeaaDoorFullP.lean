/- Open ends in plain Lean: when a text's end may become another character, and that the place goes on where none does. No program; no condition. -/
import Derived.Test.YtgjlpkocieffeaaDoorCol
namespace Go.Proofs.YtgjlpkocieffeaaDoor
open Go.RowKit Go.Lib
/-- Can what begins these bytes become no other character by what comes behind? -/
def fullN (n b0 b1 b2 : Nat) : Bool :=
  decide (0 < n) && (decide (longN b0 ≤ n) || (decide (1 < n) && !okAt b0 1 b1) || (decide (2 < n) && !okAt b0 2 b2))
def fullL (l : Bs) : Bool := fullN l.length (l.getD 0 0).toNat (l.getD 1 0).toNat (l.getD 2 0).toNat
/-- How many bytes can become no others. -/
def wholeN (l : Bs) : Nat :=
  if 1 ≤ l.length ∧ fullL (l.drop (l.length - 1)) = false then l.length - 1
  else if 2 ≤ l.length ∧ fullL (l.drop (l.length - 2)) = false then l.length - 2
  else if 3 ≤ l.length ∧ fullL (l.drop (l.length - 3)) = false then l.length - 3
  else l.length
theorem decL_four (l : Bs) : (decodeL l).2 ≤ 4 := by
  rw [decL_N]
  by_cases hg : goodN l.length (l.getD 0 0).toNat (l.getD 1 0).toNat (l.getD 2 0).toNat (l.getD 3 0).toNat
  · rcases hg with h | h | h | h
    · rw [decodeN_g1 _ _ _ _ _ h]; show 1 ≤ 4; decide
    · rw [decodeN_g2 _ _ _ _ _ h]; show 2 ≤ 4; decide
    · rw [decodeN_g3 _ _ _ _ _ h]; show 3 ≤ 4; decide
    · rw [decodeN_g4 _ _ _ _ _ h]; show 4 ≤ 4; decide
  · rw [decodeN_bad _ _ _ _ _ (gd_lt _ _) (gd_lt _ _) (gd_lt _ _) (gd_lt _ _) hg]; show 1 ≤ 4; decide
theorem gd_app (T y : Bs) (i : Nat) (h : i < T.length) : (T ++ y).getD i 0 = T.getD i 0 := by
  simp [List.getD_eq_getElem?_getD, List.getElem?_append_left h]
theorem gd_app2 (T y : Bs) (i : Nat) : (T ++ y).getD (T.length + i) 0 = y.getD i 0 := by
  rw [List.getD_eq_getElem?_getD, List.getD_eq_getElem?_getD, List.getElem?_append_right (by omega), Nat.add_sub_cancel_left]
theorem secB_of (f b : Nat) (h1 : 128 ≤ b) (h2 : b ≤ 191) (h : secP f b) : okAt f 1 b = true := (okAt_eq f 1 b).2 ⟨h1, h2, fun _ => (secB_iff f b h1 h2).2 h⟩
theorem sec_two (f b : Nat) (hf : f ≤ 223) (h1 : 128 ≤ b) (h2 : b ≤ 191) : okAt f 1 b = true := secB_of f b h1 h2 ⟨by omega, by omega, by omega, by omega⟩
theorem ok_two (f b : Nat) (h1 : 128 ≤ b) (h2 : b ≤ 191) : okAt f 2 b = true := (okAt_eq f 2 b).2 ⟨h1, h2, by omega⟩
/-- A character whose first bytes are full does not go beyond them. -/
theorem full_dec (T y : Bs) (hT : T ≠ []) (hf : fullL T = true) : (decodeL (T ++ y)).2 ≤ T.length := by
  have hl : 1 ≤ T.length := by cases T with | nil => exact absurd rfl hT | cons => simp
  refine Nat.le_of_not_lt fun hlt => ?_
  rw [decL_N] at hlt
  have e0 := gd_app T y 0 (by omega)
  have hL : (T ++ y).length = T.length + y.length := List.length_append
  unfold fullL fullN at hf
  simp only [Bool.and_eq_true, Bool.or_eq_true, decide_eq_true_eq, Bool.not_eq_true'] at hf
  obtain ⟨_, hf⟩ := hf
  by_cases hg : goodN (T ++ y).length ((T ++ y).getD 0 0).toNat ((T ++ y).getD 1 0).toNat ((T ++ y).getD 2 0).toNat ((T ++ y).getD 3 0).toNat
  · rcases hg with h | h | h | h
    · rw [decodeN_g1 _ _ _ _ _ h] at hlt
      have hlt : T.length < 1 := hlt
      omega
    · rw [decodeN_g2 _ _ _ _ _ h] at hlt
      have hlt : T.length < 2 := hlt
      rw [e0] at h
      have hb : longN (T.getD 0 0).toNat = 2 := by unfold longN; rw [if_neg (by omega), if_pos (by omega)]
      rw [hb] at hf
      omega
    · rw [decodeN_g3 _ _ _ _ _ h] at hlt
      have hlt : T.length < 3 := hlt
      rw [e0] at h
      have hb : longN (T.getD 0 0).toNat = 3 := by unfold longN; rw [if_neg (by omega), if_neg (by omega), if_pos (by omega)]
      rw [hb] at hf
      rcases hf with (hf | ⟨h1, hf⟩) | ⟨h1, hf⟩
      · omega
      · rw [gd_app T y 1 h1] at h
        rw [secB_of _ _ h.2.2.2.1 h.2.2.2.2.1 h.2.2.2.2.2.1] at hf; cases hf
      · omega
    · rw [decodeN_g4 _ _ _ _ _ h] at hlt
      have hlt : T.length < 4 := hlt
      rw [e0] at h
      have hb : longN (T.getD 0 0).toNat = 4 := by unfold longN; rw [if_neg (by omega), if_neg (by omega), if_neg (by omega), if_pos (by omega)]
      rw [hb] at hf
      rcases hf with (hf | ⟨h1, hf⟩) | ⟨h1, hf⟩
      · omega
      · rw [gd_app T y 1 h1] at h
        rw [secB_of _ _ h.2.2.2.1 h.2.2.2.2.1 h.2.2.2.2.2.1] at hf; cases hf
      · rw [gd_app T y 2 h1] at h
        rw [ok_two _ _ h.2.2.2.2.2.2.1 h.2.2.2.2.2.2.2.1] at hf; cases hf
  · rw [decodeN_bad _ _ _ _ _ (gd_lt _ _) (gd_lt _ _) (gd_lt _ _) (gd_lt _ _) hg] at hlt
    have hlt : T.length < 1 := hlt
    omega
/-- A byte that goes on a character begins none of two bytes and more. -/
theorem over_low (T y : Bs) (hT : T ≠ []) (hlt : T.length < (decodeL (T ++ y)).2) : (y.getD 0 0).toNat ≤ 191 := by
  have hl : 1 ≤ T.length := by cases T with | nil => exact absurd rfl hT | cons => simp
  have e := gd_app2 T y 0
  rw [Nat.add_zero] at e
  rw [decL_N] at hlt
  by_cases hg : goodN (T ++ y).length ((T ++ y).getD 0 0).toNat ((T ++ y).getD 1 0).toNat ((T ++ y).getD 2 0).toNat ((T ++ y).getD 3 0).toNat
  · rcases hg with h | h | h | h
    · rw [decodeN_g1 _ _ _ _ _ h] at hlt
      have hlt : T.length < 1 := hlt
      omega
    · rw [decodeN_g2 _ _ _ _ _ h] at hlt
      have hlt : T.length < 2 := hlt
      rw [show T.length = 1 by omega] at e
      rw [e] at h; omega
    · rw [decodeN_g3 _ _ _ _ _ h] at hlt
      have hlt : T.length < 3 := hlt
      rcases (by omega : T.length = 1 ∨ T.length = 2) with h1 | h1
      · rw [h1] at e; rw [e] at h; omega
      · rw [h1] at e; rw [e] at h; omega
    · rw [decodeN_g4 _ _ _ _ _ h] at hlt
      have hlt : T.length < 4 := hlt
      rcases (by omega : T.length = 1 ∨ T.length = 2 ∨ T.length = 3) with h1 | h1 | h1
      · rw [h1] at e; rw [e] at h; omega
      · rw [h1] at e; rw [e] at h; omega
      · rw [h1] at e; rw [e] at h; omega
  · rw [decodeN_bad _ _ _ _ _ (gd_lt _ _) (gd_lt _ _) (gd_lt _ _) (gd_lt _ _) hg] at hlt
    have hlt : T.length < 1 := hlt
    omega
theorem open_high (l : Bs) (hl : l ≠ []) (h : fullL l = false) : 192 ≤ (l.getD 0 0).toNat := by
  have hl : 1 ≤ l.length := by cases l with | nil => exact absurd rfl hl | cons => simp
  unfold fullL fullN at h
  rw [decide_eq_true (by omega : 0 < l.length), Bool.true_and, Bool.or_eq_false_iff, Bool.or_eq_false_iff, decide_eq_false_iff_not] at h
  have h1 := h.1.1
  rcases long_cases (l.getD 0 0).toNat with c | c | c | c | c <;> omega
/-- Does a character begin there? Where no character of what is ahead goes beyond. -/
theorem isB_at (y : Bs) (m : Nat) : ∀ (T : Bs), T.length ≤ m → (∀ n, 1 ≤ n → n ≤ 3 → n ≤ T.length → (decodeL (T.drop (T.length - n) ++ y)).2 ≤ n) → IsB (T ++ y) T.length := by
  induction m with
  | zero => intro T hT _; obtain rfl : T = [] := List.length_eq_zero_iff.1 (by omega); exact .zero _
  | succ m ih =>
    intro T hT h
    by_cases hn : T = []
    · subst hn; exact .zero _
    have hl : 1 ≤ T.length := by cases T with | nil => exact absurd rfl hn | cons => simp
    have hp := decL_pos (T ++ y)
    have h4 : (decodeL (T ++ y)).2 ≤ 4 := decL_four _
    have hk : (decodeL (T ++ y)).2 ≤ T.length := by
      refine Nat.le_of_not_lt fun hlt => ?_
      have := h T.length hl (by omega) (Nat.le_refl _)
      rw [Nat.sub_self, List.drop_zero] at this
      omega
    have hd : (T ++ y).drop (decodeL (T ++ y)).2 = T.drop (decodeL (T ++ y)).2 ++ y := by rw [List.drop_append_of_le_length hk]
    have hi := ih (T.drop (decodeL (T ++ y)).2) (by rw [List.length_drop]; omega) (fun n h1 h2 h3 => by
      rw [List.length_drop] at h3 ⊢
      rw [List.drop_drop, show (decodeL (T ++ y)).2 + (T.length - (decodeL (T ++ y)).2 - n) = T.length - n by omega]
      exact h n h1 h2 (by omega))
    have := IsB.step (T ++ y) _ (by simp [hn]) (hd ▸ hi)
    rw [List.length_drop, show (decodeL (T ++ y)).2 + (T.length - (decodeL (T ++ y)).2) = T.length by omega] at this
    exact this
/-- No character of the whole bytes goes beyond them, whatever comes. -/
theorem whole_stops (a b : Bs) (n : Nat) (h1 : 1 ≤ n) (h3 : n ≤ 3) (hn : n ≤ wholeN a) : (decodeL ((a.take (wholeN a)).drop (wholeN a - n) ++ (a.drop (wholeN a) ++ b))).2 ≤ n := by
  have hwl : wholeN a ≤ a.length := by unfold wholeN; split <;> (try split) <;> (try split) <;> omega
  have hSl : ((a.take (wholeN a)).drop (wholeN a - n)).length = n := by rw [List.length_drop, List.length_take]; omega
  have hSne : (a.take (wholeN a)).drop (wholeN a - n) ≠ [] := fun e => by rw [e] at hSl; simp at hSl; omega
  by_cases hw : wholeN a = a.length
  · have hfull : fullL (a.drop (a.length - n)) = true := by
      unfold wholeN at hw
      rcases (by omega : n = 1 ∨ n = 2 ∨ n = 3) with rfl | rfl | rfl
      · split at hw
        · omega
        · rename_i c; cases hc : fullL (a.drop (a.length - 1)) with
          | true => rfl
          | false => exact absurd ⟨by omega, hc⟩ c
      · split at hw
        · omega
        · split at hw
          · omega
          · rename_i c; cases hc : fullL (a.drop (a.length - 2)) with
            | true => rfl
            | false => exact absurd ⟨by omega, hc⟩ c
      · split at hw
        · omega
        · split at hw
          · omega
          · split at hw
            · omega
            · rename_i c; cases hc : fullL (a.drop (a.length - 3)) with
              | true => rfl
              | false => exact absurd ⟨by omega, hc⟩ c
    have e : (a.take (wholeN a)).drop (wholeN a - n) = a.drop (a.length - n) := by rw [hw, List.take_length]
    have := full_dec _ (a.drop (wholeN a) ++ b) hSne (by rw [e]; exact hfull)
    omega
  · have hop : fullL (a.drop (wholeN a)) = false ∧ wholeN a < a.length := by
      unfold wholeN at hw ⊢
      split
      · rename_i c; exact ⟨c.2, by omega⟩
      · rw [if_neg (by assumption)] at hw
        split
        · rename_i c; exact ⟨c.2, by omega⟩
        · rw [if_neg (by assumption)] at hw
          split
          · rename_i c; exact ⟨c.2, by omega⟩
          · rw [if_neg (by assumption)] at hw; omega
    have hne : a.drop (wholeN a) ≠ [] := fun e => by
      have := congrArg List.length e
      rw [List.length_drop] at this; simp at this; omega
    have hh := open_high _ hne hop.1
    refine Nat.le_of_not_lt fun hlt => ?_
    have := over_low _ (a.drop (wholeN a) ++ b) hSne (by rw [hSl]; exact hlt)
    rw [gd_app _ _ 0 (by rw [List.length_drop]; omega)] at this
    omega
/-- The lines of two texts, one behind the other. -/
theorem two_lines (s x y : ByteArray) (h : s.data.toList = x.data.toList ++ y.data.toList) : ∀ m, m ≤ y.size → nlAt s (x.size + m) = nlAt x x.size + nlAt y m ∧ fromAt s (x.size + m) = if nlAt y m = 0 then fromAt x x.size else x.size + fromAt y m := by
  have hb1 : ∀ j, j < x.size → byteAt s j = byteAt x j := fun j hj => by
    unfold byteAt; rw [h, gd_app _ _ _ (by rw [size_len]; exact hj)]
  have hb2 : ∀ j, byteAt s (x.size + j) = byteAt y j := fun j => by
    unfold byteAt; rw [h, ← size_len x, gd_app2]
  intro m
  induction m with
  | zero =>
    intro _
    obtain ⟨e1, e2⟩ := nlAt_congr s x x.size hb1
    exact ⟨e1, by rw [if_pos (show nlAt y 0 = 0 from rfl)]; exact e2⟩
  | succ m ih =>
    intro hm
    obtain ⟨e1, e2⟩ := ih (by omega)
    rw [← Nat.add_assoc]
    have a1 : nlAt s (x.size + m + 1) = if byteAt s (x.size + m) = 10 then nlAt s (x.size + m) + 1 else nlAt s (x.size + m) := rfl
    have a2 : fromAt s (x.size + m + 1) = if byteAt s (x.size + m) = 10 then x.size + m + 1 else fromAt s (x.size + m) := rfl
    have a3 : nlAt y (m + 1) = if byteAt y m = 10 then nlAt y m + 1 else nlAt y m := rfl
    have a4 : fromAt y (m + 1) = if byteAt y m = 10 then m + 1 else fromAt y m := rfl
    rw [a1, a2, a3, a4, hb2, e1, e2]
    by_cases c : byteAt y m = 10
    · rw [if_pos c, if_pos c, if_pos c, if_pos c, if_neg (by omega)]; exact ⟨by omega, by omega⟩
    · rw [if_neg c, if_neg c, if_neg c, if_neg c]; exact ⟨rfl, rfl⟩
/-- The place behind two texts, gone on from the end of the first one, where no character goes beyond that. -/
theorem adv_join (s x y : ByteArray) (h : s.data.toList = x.data.toList ++ y.data.toList) (hb : IsB (x.data.toList.drop (fromAt x x.size) ++ y.data.toList) (x.size - fromAt x x.size)) (a l c : Int) :
    advV (wrap64 (a + x.size)) (wrap64 (l + nlAt x x.size)) (wrap64 (colI (nlAt x x.size) c + tailC x)) y = advV a l c s := by
  have hz : s.size = x.size + y.size := by rw [← size_len, h, List.length_append, size_len, size_len]
  obtain ⟨e1, e2⟩ := two_lines s x y h y.size (Nat.le_refl _)
  rw [← hz] at e1 e2
  have hfx := fromAt_le x x.size
  have hzI : (s.size : Int) = (x.size : Int) + (y.size : Int) := by omega
  unfold advV
  rw [wrap64_add, wrap64_add, e1]
  have hcol : wrap64 (colI (nlAt y y.size) (wrap64 (colI (nlAt x x.size) c + tailC x)) + tailC y) = wrap64 (colI (nlAt x x.size + nlAt y y.size) c + tailC s) := by
    by_cases c0 : nlAt y y.size = 0
    · have ht : tailC s = tailC x + tailC y := by
        unfold tailC
        rw [e2, if_pos c0, fromAt_zero y _ c0, List.drop_zero, h, List.drop_append_of_le_length (by rw [size_len]; exact hfx)]
        have := hb.split
        rw [this]
        have hl : (x.data.toList.drop (fromAt x x.size)).length = x.size - fromAt x x.size := by rw [List.length_drop, size_len]
        rw [← hl, List.take_left, List.drop_left]
      rw [ht, c0, Nat.add_zero]
      have : colI 0 (wrap64 (colI (nlAt x x.size) c + ↑(tailC x))) = wrap64 (colI (nlAt x x.size) c + ↑(tailC x)) := rfl
      rw [this, wrap64_add]
      congr 1
      omega
    · have ht : tailC s = tailC y := by
        unfold tailC
        rw [e2, if_neg c0, h, ← size_len x, List.drop_append, List.drop_eq_nil_of_le (by omega), Nat.add_sub_cancel_left]
        rfl
      rw [ht]
      have p1 : ∀ z, colI (nlAt y y.size) z = 1 := fun z => by unfold colI; rw [if_neg c0]
      have p2 : colI (nlAt x x.size + nlAt y y.size) c = 1 := by unfold colI; rw [if_neg (by omega)]
      rw [p1, p2]
  rw [hcol, hzI, show a + (x.size : Int) + (y.size : Int) = a + ((x.size : Int) + (y.size : Int)) by omega, show l + (nlAt x x.size : Int) + (nlAt y y.size : Int) = l + ((nlAt x x.size + nlAt y y.size : Nat) : Int) by omega]
end Go.Proofs.YtgjlpkocieffeaaDoor
