/- A token of a text's beginning is the text's. Plain Lean; condition: it does not end where the beginning does, or a line end follows. -/
import Derived.Test.YtdphhmigbbgjmaaDoorM4
namespace Go.Proofs.YtdphhmigbbgjmaaDoor
open Go.RowKit Go.Lib
set_option linter.unusedVariables false
set_option linter.unusedSimpArgs false
theorem cut0_list (y : ByteArray) (n : Nat) : (cutS y 0 n).data.toList = y.data.toList.take n := by rw [cut_list, List.drop_zero, Nat.sub_zero]
theorem cut0_size (y : ByteArray) (n : Nat) (hn : n ≤ y.size) : (cutS y 0 n).size = n := by rw [cut_size y 0 n hn, Nat.sub_zero]
theorem cut0_byte (y : ByteArray) (n j : Nat) (h : j < n) : byteAt (cutS y 0 n) j = byteAt y j := by rw [cut_byte y 0 n j (by omega), Nat.zero_add]
theorem cut0_drop (y : ByteArray) (n e : Nat) : (cutS y 0 n).data.toList.drop e = (y.data.toList.drop e).take (n - e) := by rw [cut0_list, List.drop_take]
theorem ba_ext {x y : ByteArray} (h : x.data.toList = y.data.toList) : x = y := by
  cases x; cases y; simp at h; rw [h]
theorem cut0_cut (y : ByteArray) (n a e : Nat) (h : e ≤ n) : cutS (cutS y 0 n) a e = cutS y a e := by
  apply ba_ext
  rw [cut_list (cutS y 0 n), cut0_drop, List.take_take, Nat.min_eq_left (by omega), cut_list y]
/-- A character that the cut goes through. -/
def Tr (y : ByteArray) (n e : Nat) : Prop := n < e + nOf y e
theorem pre_dec (y : ByteArray) (n e : Nat) (hn : n ≤ y.size) (he : e < n) (h : ¬ Tr y n e) : nOf (cutS y 0 n) e = nOf y e ∧ pOf (cutS y 0 n) e = pOf y e ∧ gOf (cutS y 0 n) e = gOf y e := by
  have hz := cut0_size y n hn
  have e1 : Utf8.decode (cutS y 0 n) e = Utf8.decode y e := by
    unfold Tr at h
    rw [nOf_dec y e (by omega)] at h
    rw [← decodeL_drop] at h ⊢
    rw [← decodeL_drop, cut0_drop]
    exact dec_take _ _ (by omega) (by rw [List.length_drop, size_len]; omega)
  rw [nOf_dec y e (by omega), pOf_dec y e (by omega), gOf_dec y e (by omega), nOf_dec _ e (by omega), pOf_dec _ e (by omega), gOf_dec _ e (by omega), e1]
  exact ⟨rfl, rfl, rfl⟩
theorem tr_high (y : ByteArray) (n e : Nat) (hn : n ≤ y.size) (he : e < n) (h : Tr y n e) : (∀ j, e ≤ j → j ≤ n → 128 ≤ byteAt y j) ∧ gOf (cutS y 0 n) e = false := by
  have hz := cut0_size y n hn
  unfold Tr at h
  rw [nOf_dec y e (by omega)] at h
  have hd := decodeL_drop y e
  have hh : ∀ j, e < j → j ≤ n → 128 ≤ byteAt y j ∧ 128 ≤ byteAt y e := fun j h1 h2 => by
    have := dec_high (y.data.toList.drop e) (j - e) (by omega) (by rw [hd]; omega)
    rw [byteAt_drop, byteAt_drop, show e + (j - e) = j by omega, Nat.add_zero] at this
    exact this
  have h0 := (hh n he (Nat.le_refl _)).2
  refine ⟨fun j h1 h2 => ?_, ?_⟩
  · by_cases c : j = e
    · rw [c]; exact h0
    · exact (hh j (by omega) h2).1
  · rw [gOf_dec _ e (by omega), dec_at, hz]
    have hb : decodeN (n - e) (byteAt (cutS y 0 n) e) (byteAt (cutS y 0 n) (e + 1)) (byteAt (cutS y 0 n) (e + 2)) (byteAt (cutS y 0 n) (e + 3)) = (65533, 1) := by
      refine decodeN_bad _ _ _ _ _ (byteAt_lt _ _) (byteAt_lt _ _) (byteAt_lt _ _) (byteAt_lt _ _) ?_
      rw [cut0_byte y n e he]
      rw [dec_at] at h
      by_cases hg : goodN (y.size - e) (byteAt y e) (byteAt y (e + 1)) (byteAt y (e + 2)) (byteAt y (e + 3))
      · intro hg2
        unfold goodN at hg2
        rcases hg with k | k | k | k
        · omega
        · rw [decodeN_g2 _ _ _ _ _ k] at h; simp only at h; omega
        · rw [decodeN_g3 _ _ _ _ _ k] at h; simp only at h; omega
        · rw [decodeN_g4 _ _ _ _ _ k] at h; simp only at h; omega
      · rw [decodeN_bad _ _ _ _ _ (byteAt_lt _ _) (byteAt_lt _ _) (byteAt_lt _ _) (byteAt_lt _ _) hg] at h; simp only at h; omega
    rw [hb]; rfl
/-- What ends each token but a sign: a byte 10 behind the cut. -/
def NL (y : ByteArray) (n : Nat) : Prop := n < y.size ∧ byteAt y n = 10
theorem NL.tr {y : ByteArray} {n e : Nat} (h : NL y n) (he : e < n) : ¬ Tr y n e := fun ht => by
  have := (tr_high y n e (Nat.le_of_lt h.1) he ht).1 n (by omega) (Nat.le_refl _); have := h.2; omega
theorem NL.dec {y : ByteArray} {n : Nat} (h : NL y n) : pOf y n = 10 ∧ nOf y n = 1 := by
  have := low_char y n h.1 (by have := h.2; omega); have h2 := h.2; exact ⟨by rw [this.2.1, h2]; rfl, this.1⟩
theorem part_nl : partB 10 = false := by decide
theorem nm_pre (y : ByteArray) (n a : Nat) (hn : n ≤ y.size) (k : Nat) : ∀ (k' e : Nat), n < e + k → y.size < e + k' → e ≤ n → ∀ E : Nat, (nmGo (cutS y 0 n) a k e).2.1 = (E : Int) → (nmGo (cutS y 0 n) a k e).2.2 = 0 → (E < n ∨ NL y n) →
    nmGo y a k' e = nmGo (cutS y 0 n) a k e ∨ (E < n ∧ Tr y n E) := by
  have hz := cut0_size y n hn
  induction k with
  | zero => intro k' e h1 _ h3; omega
  | succ k ih =>
    intro k' e h1 h2 h3 E hE h0 hor
    obtain ⟨k', rfl⟩ : ∃ m, k' = m + 1 := ⟨k' - 1, by omega⟩
    unfold nmGo at hE h0 ⊢
    rw [hz] at hE h0 ⊢
    have hkey : keyB ((cutS y 0 n).extract a e) = keyB (y.extract a e) := by
      rw [cutS_in, cutS_in, cut0_cut y n a e h3]
    by_cases c : e < n
    · by_cases t : Tr y n e
      · have hg := (tr_high y n e hn c t).2
        rw [if_neg (fun h => by rw [hg] at h; simp at h)] at hE
        right
        have : (E : Int) = (e : Int) := by rw [← hE]; split <;> rfl
        have : E = e := by omega
        subst this; exact ⟨c, t⟩
      · obtain ⟨d1, d2, d3⟩ := pre_dec y n e hn c t
        rw [d1, d2, d3] at hE h0 ⊢
        by_cases c1 : gOf y e = true ∧ partB (pOf y e) = true
        · rw [if_pos (show e < n ∧ gOf y e = true ∧ partB (pOf y e) = true from ⟨c, c1⟩)] at hE h0 ⊢
          rw [if_pos (show e < y.size ∧ _ from ⟨by omega, c1⟩)]
          by_cases c2 : 65535 + a < e + nOf y e
          · rw [if_pos c2] at h0; simp at h0
          · rw [if_neg c2] at hE h0 ⊢
            rw [if_neg c2]
            unfold Tr at t
            have := nOf_bd y e (by omega)
            exact ih k' (e + nOf y e) (by omega) (by omega) (by omega) E hE h0 hor
        · left
          rw [if_neg (show ¬ (e < n ∧ _) from fun h => c1 h.2), if_neg (show ¬ (e < y.size ∧ _) from fun h => c1 h.2), hkey]
    · left
      have en : e = n := by omega
      rw [if_neg (show ¬ (e < n ∧ _) from fun h => c h.1)] at hE ⊢
      have : (E : Int) = (e : Int) := by rw [← hE]; split <;> rfl
      have hN : NL y n := hor.resolve_left (by omega)
      have hp := hN.dec.1
      rw [← en] at hp
      rw [hkey, if_neg (show ¬ (e < y.size ∧ gOf y e = true ∧ partB (pOf y e) = true) from fun h => by rw [hp, part_nl] at h; simp at h)]
theorem p_high (s : ByteArray) (e : Nat) (he : e < s.size) (h : 128 ≤ byteAt s e) : 128 ≤ pOf s e := by
  rcases Int.lt_or_le (pOf s e) 128 with h1 | h1
  · have := char_low s e he h1; omega
  · exact h1
theorem nb_pre (y : ByteArray) (n a : Nat) (hn : n ≤ y.size) (k : Nat) : ∀ (k' e : Nat), n < e + k → y.size < e + k' → e ≤ n → ∀ E : Nat, (nbGo (cutS y 0 n) a k e).2.1 = (E : Int) → (nbGo (cutS y 0 n) a k e).2.2 = 0 → (E < n ∨ NL y n) →
    nbGo y a k' e = nbGo (cutS y 0 n) a k e ∨ (E < n ∧ Tr y n E) := by
  have hz := cut0_size y n hn
  induction k with
  | zero => intro k' e h1 _ h3; omega
  | succ k ih =>
    intro k' e h1 h2 h3 E hE h0 hor
    obtain ⟨k', rfl⟩ : ∃ m, k' = m + 1 := ⟨k' - 1, by omega⟩
    unfold nbGo at hE h0 ⊢
    rw [hz] at hE h0 ⊢
    by_cases c : e < n
    · by_cases t : Tr y n e
      · have hg := (tr_high y n e hn c t).1 e (Nat.le_refl _) (by omega)
        have hp := p_high (cutS y 0 n) e (by omega) (by rw [cut0_byte y n e c]; exact hg)
        rw [if_neg (show ¬ (e < n ∧ 48 ≤ pOf (cutS y 0 n) e ∧ pOf (cutS y 0 n) e ≤ 57) by omega)] at hE
        right
        have : (E : Int) = (e : Int) := by rw [← hE]
        have : E = e := by omega
        subst this; exact ⟨c, t⟩
      · obtain ⟨d1, d2, d3⟩ := pre_dec y n e hn c t
        rw [d1, d2] at hE h0 ⊢
        by_cases c1 : 48 ≤ pOf y e ∧ pOf y e ≤ 57
        · rw [if_pos (show e < n ∧ 48 ≤ pOf y e ∧ pOf y e ≤ 57 from ⟨c, c1⟩)] at hE h0 ⊢
          rw [if_pos (show e < y.size ∧ _ from ⟨by omega, c1⟩)]
          by_cases c2 : 65535 + a < e + nOf y e
          · rw [if_pos c2] at h0; simp at h0
          · rw [if_neg c2] at hE h0 ⊢
            rw [if_neg c2]
            unfold Tr at t
            have := nOf_bd y e (by omega)
            exact ih k' (e + nOf y e) (by omega) (by omega) (by omega) E hE h0 hor
        · left
          rw [if_neg (show ¬ (e < n ∧ _) from fun h => c1 h.2), if_neg (show ¬ (e < y.size ∧ _) from fun h => c1 h.2)]
    · left
      have en : e = n := by omega
      rw [if_neg (show ¬ (e < n ∧ _) from fun h => c h.1)] at hE ⊢
      have : (E : Int) = (e : Int) := by rw [← hE]
      have hN : NL y n := hor.resolve_left (by omega)
      have hp := hN.dec.1
      rw [← en] at hp
      rw [if_neg (show ¬ (e < y.size ∧ 48 ≤ pOf y e ∧ pOf y e ≤ 57) by rw [hp]; omega)]
/-- Behind such a character no text ends. -/
theorem qt_high (s : ByteArray) (a : Nat) (k : Nat) : ∀ e, s.size < e + k → e ≤ s.size → (∀ j, e ≤ j → j < s.size → 128 ≤ byteAt s j) → (qtGo s a k e).2.2 ≠ 0 := by
  induction k with
  | zero => intro e h1 h2; omega
  | succ k ih =>
    intro e h1 h2 h
    unfold qtGo
    by_cases c1 : ¬ e < s.size ∨ pOf s e = 10
    · rw [if_pos c1]; simp
    rw [if_neg c1]
    have hlt : e < s.size := by omega
    have hp := p_high s e hlt (h e (Nat.le_refl _) hlt)
    have hn := nOf_bd s e hlt
    by_cases c2 : 65535 + a < e + nOf s e
    · rw [if_pos c2]; simp
    rw [if_neg c2]
    by_cases c3 : ctlB s e = true
    · rw [if_pos c3]; simp
    rw [if_neg c3, if_neg (by omega)]
    exact ih _ (by omega) (by omega) fun j h1 h2 => h j (by omega) h2
theorem qt_pre (y : ByteArray) (n a : Nat) (hn : n ≤ y.size) (k : Nat) : ∀ (k' e : Nat), n < e + k → y.size < e + k' → e ≤ n → (qtGo (cutS y 0 n) a k e).2.2 = 0 →
    qtGo y a k' e = qtGo (cutS y 0 n) a k e := by
  have hz := cut0_size y n hn
  induction k with
  | zero => intro k' e h1 _ h3; omega
  | succ k ih =>
    intro k' e h1 h2 h3 h0
    obtain ⟨k', rfl⟩ : ∃ m, k' = m + 1 := ⟨k' - 1, by omega⟩
    by_cases c : e < n
    · by_cases t : Tr y n e
      · refine absurd h0 (qt_high _ a (k + 1) e (by omega) (by omega) fun j h1 h2 => ?_)
        rw [hz] at h2
        rw [cut0_byte y n j h2]
        exact (tr_high y n e hn c t).1 j h1 (by omega)
      · obtain ⟨d1, d2, d3⟩ := pre_dec y n e hn c t
        have hc : ctlB (cutS y 0 n) e = ctlB y e := by unfold ctlB; rw [d2, d3]
        unfold qtGo at h0 ⊢
        rw [hz, d1, d2, hc] at h0 ⊢
        by_cases c1 : pOf y e = 10
        · rw [if_pos (.inr c1)] at h0; simp at h0
        rw [if_neg (show ¬ (¬ e < n ∨ pOf y e = 10) from fun h => h.elim (fun h => h c) c1)] at h0 ⊢
        rw [if_neg (show ¬ (¬ e < y.size ∨ pOf y e = 10) from fun h => h.elim (fun h => h (by omega)) c1)]
        by_cases c2 : 65535 + a < e + nOf y e
        · rw [if_pos c2] at h0; simp at h0
        rw [if_neg c2] at h0 ⊢
        rw [if_neg c2]
        by_cases c3 : ctlB y e = true
        · rw [if_pos c3] at h0; simp at h0
        rw [if_neg c3] at h0 ⊢
        rw [if_neg c3]
        by_cases c4 : pOf y e = 34
        · rw [if_pos c4, if_pos c4]
        rw [if_neg c4] at h0 ⊢
        rw [if_neg c4]
        unfold Tr at t
        have := nOf_bd y e (by omega)
        exact ih k' _ (by omega) (by omega) (by omega) h0
    · unfold qtGo at h0
      rw [hz, if_pos (.inl c)] at h0; simp at h0
theorem cm_high (s : ByteArray) (a : Nat) (line : Bool) (k : Nat) : ∀ e, s.size < e + k → e ≤ s.size → (∀ j, e ≤ j → j < s.size → 128 ≤ byteAt s j) → (cmGo s a line k e).2.2 = 0 → line = true ∧ (cmGo s a line k e).2.1 = (s.size : Int) := by
  induction k with
  | zero => intro e h1 h2; omega
  | succ k ih =>
    intro e h1 h2 h h0
    unfold cmGo at h0 ⊢
    by_cases c0 : e < s.size
    · have hp := p_high s e c0 (h e (Nat.le_refl _) c0)
      have hn := nOf_bd s e c0
      rw [if_neg (show ¬ (line = true ∧ (¬ e < s.size ∨ pOf s e = 10)) by omega), if_neg (show ¬ ¬ e < s.size from fun h => h c0)] at h0 ⊢
      by_cases c2 : 65535 + a < e + nOf s e
      · rw [if_pos c2] at h0; simp at h0
      rw [if_neg c2, if_neg (show ¬ (line = false ∧ pOf s e = 125) by omega)] at h0 ⊢
      exact ih _ (by omega) (by omega) (fun j h1 h2 => h j (by omega) h2) h0
    · cases line with
      | true =>
        rw [if_pos (show true = true ∧ (¬ e < s.size ∨ pOf s e = 10) from ⟨rfl, .inl c0⟩)]
        exact ⟨rfl, by show (e : Int) = _; omega⟩
      | false =>
        rw [if_neg (show ¬ (false = true ∧ (¬ e < s.size ∨ pOf s e = 10)) by simp), if_pos c0] at h0; simp at h0
theorem cm_pre (y : ByteArray) (n a : Nat) (line : Bool) (hn : n ≤ y.size) (k : Nat) : ∀ (k' e : Nat), n < e + k → y.size < e + k' → e ≤ n → ∀ E : Nat, (cmGo (cutS y 0 n) a line k e).2.1 = (E : Int) → (cmGo (cutS y 0 n) a line k e).2.2 = 0 → (E < n ∨ NL y n ∨ line = false) →
    cmGo y a line k' e = cmGo (cutS y 0 n) a line k e := by
  have hz := cut0_size y n hn
  induction k with
  | zero => intro k' e h1 _ h3; omega
  | succ k ih =>
    intro k' e h1 h2 h3 E hE h0 hor
    obtain ⟨k', rfl⟩ : ∃ m, k' = m + 1 := ⟨k' - 1, by omega⟩
    by_cases c : e < n
    · by_cases t : Tr y n e
      · have := cm_high _ a line (k + 1) e (by omega) (by omega) (fun j h1 h2 => by
          rw [hz] at h2
          rw [cut0_byte y n j h2]
          exact (tr_high y n e hn c t).1 j h1 (by omega)) h0
        rw [hE, hz] at this
        rcases hor with h | h | h
        · omega
        · exact absurd t (h.tr c)
        · rw [h] at this; simp at this
      · obtain ⟨d1, d2, d3⟩ := pre_dec y n e hn c t
        unfold cmGo at hE h0 ⊢
        rw [hz, d1, d2] at hE h0 ⊢
        by_cases c1 : line = true ∧ pOf y e = 10
        · rw [if_pos (show line = true ∧ (¬ e < n ∨ pOf y e = 10) from ⟨c1.1, .inr c1.2⟩), if_pos (show line = true ∧ (¬ e < y.size ∨ pOf y e = 10) from ⟨c1.1, .inr c1.2⟩)]
        rw [if_neg (show ¬ (line = true ∧ (¬ e < n ∨ pOf y e = 10)) from fun h => h.2.elim (fun h => h c) (fun h2 => c1 ⟨h.1, h2⟩)), if_neg (show ¬ ¬ e < n from fun h => h c)] at hE h0 ⊢
        rw [if_neg (show ¬ (line = true ∧ (¬ e < y.size ∨ pOf y e = 10)) from fun h => h.2.elim (fun h => h (by omega)) (fun h2 => c1 ⟨h.1, h2⟩)), if_neg (show ¬ ¬ e < y.size from fun h => h (by omega))]
        by_cases c2 : 65535 + a < e + nOf y e
        · rw [if_pos c2] at h0; simp at h0
        rw [if_neg c2] at hE h0 ⊢
        rw [if_neg c2]
        by_cases c4 : line = false ∧ pOf y e = 125
        · rw [if_pos c4, if_pos c4]
        rw [if_neg c4] at hE h0 ⊢
        rw [if_neg c4]
        unfold Tr at t
        have := nOf_bd y e (by omega)
        exact ih k' _ (by omega) (by omega) (by omega) E hE h0 hor
    · have en : e = n := by omega
      unfold cmGo at hE h0 ⊢
      rw [hz] at hE h0 ⊢
      cases line with
      | true =>
        rw [if_pos (show true = true ∧ (¬ e < n ∨ _) from ⟨rfl, .inl c⟩)] at hE ⊢
        have hE : (e : Int) = (E : Int) := hE
        have hN : NL y n := by
          rcases hor with h | h | h
          · omega
          · exact h
          · simp at h
        have hp := hN.dec.1
        rw [← en] at hp
        rw [if_pos (show true = true ∧ (¬ e < y.size ∨ pOf y e = 10) from ⟨rfl, .inr hp⟩)]
      | false =>
        rw [if_neg (show ¬ (false = true ∧ (¬ e < n ∨ pOf (cutS y 0 n) e = 10)) by simp), if_pos c] at h0; simp at h0
theorem sg_pre (y : ByteArray) (n a b : Nat) (hn : n ≤ y.size) (h0 : (sgV (cutS y 0 n) a b).2.2 = 0) : sgV y a b = sgV (cutS y 0 n) a b := by
  have hz := cut0_size y n hn
  have hlow : ∀ e, e < n → Tr y n e → ∀ j, e ≤ j → j < n → 128 ≤ pOf (cutS y 0 n) j := fun e he t j h1 h2 =>
    p_high _ j (by omega) (by rw [cut0_byte y n j h2]; exact (tr_high y n e hn he t).1 j h1 (by omega))
  unfold sgV at h0 ⊢
  rw [hz] at h0 ⊢
  by_cases c : b < n
  · by_cases t : Tr y n b
    · have hb := nOf_bd (cutS y 0 n) b (by omega)
      have h1 := hlow b c t b (Nat.le_refl _) c
      exfalso
      rw [if_neg (show ¬ (¬ b < n ∨ pOf (cutS y 0 n) b = 10) by omega)] at h0
      by_cases c2 : pOf (cutS y 0 n) b = 39 ∨ ctlB (cutS y 0 n) b = true
      · rw [if_pos c2] at h0; simp at h0
      rw [if_neg c2] at h0
      by_cases c3 : b + nOf (cutS y 0 n) b < n
      · have h2 := hlow b c t _ (show b ≤ b + nOf (cutS y 0 n) b by omega) c3
        rw [if_neg (show ¬ (¬ b + nOf (cutS y 0 n) b < n ∨ pOf (cutS y 0 n) (b + nOf (cutS y 0 n) b) = 10) by omega), if_neg (show ¬ pOf (cutS y 0 n) (b + nOf (cutS y 0 n) b) = 39 by omega)] at h0
        simp at h0
      · rw [if_pos (.inl c3)] at h0; simp at h0
    · obtain ⟨d1, d2, d3⟩ := pre_dec y n b hn c t
      have hc : ctlB (cutS y 0 n) b = ctlB y b := by unfold ctlB; rw [d2, d3]
      rw [d1, d2, hc] at h0 ⊢
      by_cases c1 : pOf y b = 10
      · rw [if_pos (.inr c1)] at h0; simp at h0
      rw [if_neg (show ¬ (¬ b < n ∨ pOf y b = 10) by omega)] at h0 ⊢
      rw [if_neg (show ¬ (¬ b < y.size ∨ pOf y b = 10) by omega)]
      by_cases c2 : pOf y b = 39 ∨ ctlB y b = true
      · rw [if_pos c2] at h0; simp at h0
      rw [if_neg c2] at h0 ⊢
      rw [if_neg c2]
      by_cases c3 : b + nOf y b < n
      · by_cases t2 : Tr y n (b + nOf y b)
        · have h2 := hlow _ c3 t2 _ (Nat.le_refl _) c3
          exfalso
          rw [if_neg (show ¬ (¬ b + nOf y b < n ∨ pOf (cutS y 0 n) (b + nOf y b) = 10) by omega), if_neg (show ¬ pOf (cutS y 0 n) (b + nOf y b) = 39 by omega)] at h0
          simp at h0
        · obtain ⟨g1, g2, g3⟩ := pre_dec y n _ hn c3 t2
          rw [g1, g2] at h0 ⊢
          by_cases c4 : pOf y (b + nOf y b) = 10
          · rw [if_pos (.inr c4)] at h0; simp at h0
          rw [if_neg (show ¬ (¬ b + nOf y b < n ∨ pOf y (b + nOf y b) = 10) by omega), if_neg (show ¬ (¬ b + nOf y b < y.size ∨ pOf y (b + nOf y b) = 10) by omega)]
      · rw [if_pos (.inl c3)] at h0; simp at h0
  · rw [if_pos (.inl c)] at h0; simp at h0
theorem pre2 (y : ByteArray) (n m : Nat) (hn : n ≤ y.size) (hm : m < n) (p q : UInt8) (hq : q ≠ 10) (h : m + 1 < n ∨ NL y n) : Lib.hasPrefix ((cutS y 0 n).data.toList.drop m) [p, q] = Lib.hasPrefix (y.data.toList.drop m) [p, q] := by
  have hl : (y.data.toList.drop m).length = y.size - m := by rw [List.length_drop, size_len]
  rw [cut0_drop]
  have key : ∀ l : Bs, Lib.hasPrefix l [p, q] = true ↔ (2 ≤ l.length ∧ l.getD 0 0 = p ∧ l.getD 1 0 = q) := fun l => by
    unfold Lib.hasPrefix
    match l with
    | [] => simp
    | [a] => simp
    | a :: b :: r =>
      constructor
      · intro h
        simp [List.isPrefixOf] at h
        exact ⟨by simp, h.1.symm, h.2.symm⟩
      · rintro ⟨_, h1, h2⟩
        simp at h1 h2
        simp [List.isPrefixOf, h1, h2]
  rw [Bool.eq_iff_iff, key, key, List.length_take, hl, getD_take _ _ 0 (by omega)]
  by_cases c : m + 1 < n
  · rw [getD_take _ _ 1 (by omega)]
    constructor
    · rintro ⟨_, h⟩; exact ⟨by omega, h⟩
    · rintro ⟨_, h⟩; exact ⟨by omega, h⟩
  · have hN := h.resolve_left c
    constructor
    · rintro ⟨h, _⟩; omega
    · rintro ⟨_, _, h⟩
      have := byteAt_drop y m 1
      rw [h, show m + 1 = n by omega, hN.2] at this
      exact absurd (UInt8.toNat_inj.1 (by rw [this]; rfl)) hq
theorem sl_pre (y : ByteArray) (n m : Nat) (hn : n ≤ y.size) (hm : m < n) (h : m + 1 < n ∨ NL y n) : slB (cutS y 0 n) m = slB y m := pre2 y n m hn hm 47 47 (by decide) h
theorem sign_pre (y : ByteArray) (n m : Nat) (hn : n ≤ y.size) (hm : m < n) (h : m + 1 < n ∨ NL y n) : signL ((cutS y 0 n).data.toList.drop m) = signL (y.data.toList.drop m) := by
  have p := fun a b hb => pre2 y n m hn hm a b hb h
  unfold signL
  rw [p 58 61 (by decide), p 46 46 (by decide), p 60 61 (by decide), p 62 61 (by decide)]
  have e : (y.data.toList.drop m).take (n - m) = (cutS y 0 n).data.toList.drop m := (cut0_drop y n m).symm
  rw [← e]
  cases hd : y.data.toList.drop m with
  | nil => rw [List.take_nil]
  | cons c r =>
    obtain ⟨j, hj⟩ : ∃ j, n - m = j + 1 := ⟨n - m - 1, by omega⟩
    rw [hj, List.take_succ_cons]
/-- No token begins with such a character. -/
theorem one_high (s : ByteArray) (m : Nat) (hm : m < s.size) (hb : 128 ≤ byteAt s m) (hg : gOf s m = false) : (oneV s m).2.2 ≠ 0 := by
  have hp := p_high s m hm hb
  have h2 : ∀ p q : UInt8, p.toNat < 128 → Lib.hasPrefix (s.data.toList.drop m) [p, q] = true → False := fun p q hpl h => by
    have := (pre_bytes s m p q h).2.1; omega
  unfold oneV
  rw [if_neg (by rw [hg]; simp), if_neg (by omega), if_neg (by omega), if_neg (by omega)]
  rw [if_neg (show ¬ (pOf s m = 123 ∨ slB s m = true) from fun h => h.elim (fun h => by omega) (fun h => h2 _ _ (by decide) h))]
  have : signL (s.data.toList.drop m) = [] := by
    unfold signL
    rw [if_neg (fun h => h2 _ _ (by decide) h), if_neg (fun h => h2 _ _ (by decide) h), if_neg (fun h => h2 _ _ (by decide) h), if_neg (fun h => h2 _ _ (by decide) h)]
    cases hd : s.data.toList.drop m with
    | nil => rfl
    | cons c r =>
      simp only
      rw [if_neg]
      intro h5
      have hmm := idx_of c h5
      have hbc : byteAt s m = c.toNat := by have := byteAt_drop s m 0; rw [hd] at this; simpa using this.symm
      have : ∀ x ∈ sgsL, x.toNat < 128 := by decide
      have := this c hmm
      omega
  rw [if_pos this]; simp
/-- A token of a beginning is the text's, where it does not end with the beginning. -/
theorem one_pre (y : ByteArray) (n m : Nat) (hn : n ≤ y.size) (hm : m < n) (E : Nat) (hE : (oneV (cutS y 0 n) m).2.1 = (E : Int)) (hmE : m + 1 ≤ E) (h0 : (oneV (cutS y 0 n) m).2.2 = 0) (hor : E < n ∨ NL y n) :
    oneV y m = oneV (cutS y 0 n) m ∨ (E < n ∧ Tr y n E) := by
  have hz := cut0_size y n hn
  have h1n : m + 1 < n ∨ NL y n := hor.imp_left (fun h => by omega)
  by_cases t : Tr y n m
  · obtain ⟨q1, q2⟩ := tr_high y n m hn hm t
    exact absurd h0 (one_high _ m (by omega) (by rw [cut0_byte y n m hm]; exact q1 m (Nat.le_refl _) (by omega)) q2)
  obtain ⟨d1, d2, d3⟩ := pre_dec y n m hn hm t
  have hnb := nOf_bd y m (by omega)
  have hle : m + nOf y m ≤ n := by unfold Tr at t; omega
  have ebt : byteAt (cutS y 0 n) m = byteAt y m := cut0_byte y n m hm
  have esl := sl_pre y n m hn hm h1n
  have esg := sign_pre y n m hn hm h1n
  unfold oneV at hE h0 ⊢
  rw [hz, d1, d2, d3, ebt, esl, esg] at hE h0 ⊢
  by_cases c1 : gOf y m = true ∧ ltrB (pOf y m) = true
  · rw [if_pos c1] at hE h0 ⊢
    rw [if_pos c1]
    exact nm_pre y n m hn _ _ _ (by omega) (by omega) hle E hE h0 hor
  rw [if_neg c1] at hE h0 ⊢
  rw [if_neg c1]
  by_cases c2 : 48 ≤ pOf y m ∧ pOf y m ≤ 57
  · rw [if_pos c2] at hE h0 ⊢
    rw [if_pos c2]
    exact nb_pre y n m hn _ _ _ (by omega) (by omega) hle E hE h0 hor
  rw [if_neg c2] at hE h0 ⊢
  rw [if_neg c2]
  by_cases c3 : pOf y m = 34
  · rw [if_pos c3] at hE h0 ⊢
    rw [if_pos c3]
    exact .inl (qt_pre y n m hn _ _ _ (by omega) (by omega) hle h0)
  rw [if_neg c3] at hE h0 ⊢
  rw [if_neg c3]
  by_cases c4 : pOf y m = 39
  · rw [if_pos c4] at hE h0 ⊢
    rw [if_pos c4]
    exact .inl (sg_pre y n m _ hn h0)
  rw [if_neg c4] at hE h0 ⊢
  rw [if_neg c4]
  by_cases c5 : pOf y m = 123 ∨ slB y m = true
  · rw [if_pos c5] at hE h0 ⊢
    rw [if_pos c5]
    exact .inl (cm_pre y n m _ hn _ _ _ (by omega) (by omega) hle E hE h0 (hor.imp_right .inl))
  rw [if_neg c5] at hE h0 ⊢
  rw [if_neg c5]
  exact .inl rfl
theorem wsN_take (l : Bs) : ∀ k, wsN (l.take k) = min k (wsN l) := by
  unfold wsN
  induction l with
  | nil => intro k; simp
  | cons b r ih =>
    intro k
    cases k with
    | zero => simp
    | succ k =>
      rw [List.take_succ_cons, List.takeWhile_cons, List.takeWhile_cons]
      by_cases h : wsB b = true
      · rw [if_pos h, if_pos h, List.length_cons, List.length_cons, ih k]; omega
      · rw [if_neg h, if_neg h]; simp
theorem ws_pre (y : ByteArray) (n a : Nat) (hn : n ≤ y.size) (ha : a ≤ n) : wsE (cutS y 0 n) a = min n (wsE y a) := by
  unfold wsE
  rw [cut0_drop, wsN_take]; omega
theorem plT_pre (y : ByteArray) (n m : Nat) (hm : m ≤ n) : plT (cutS y 0 n) m = plT y m ∧ nlAt (cutS y 0 n) m = nlAt y m := by
  obtain ⟨h1, h2⟩ := nlAt_congr (cutS y 0 n) y m (fun j hj => cut0_byte y n j (by omega))
  refine ⟨?_, h1⟩
  unfold plT colN
  rw [h1, h2, cut0_list, List.take_take, Nat.min_eq_left hm]
end Go.Proofs.YtdphhmigbbgjmaaDoor
