/- Two sources with a line end between, scanned: the one's tokens, and then the other's. Plain Lean. -/
import Derived.Test.YtdphhmigbbgjmaaDoorBeg
namespace Go.Proofs.YtdphhmigbbgjmaaDoor
open Go.RowKit Go.Lib
open PScan
set_option linter.unusedVariables false
set_option linter.unusedSimpArgs false
/-- b stands in y from o on, behind a line end. -/
structure Beh (y b : ByteArray) (o : Nat) : Prop where
  l : y.data.toList.drop o = b.data.toList
  z : y.size = o + b.size
  p : 0 < o
  n : byteAt y (o - 1) = 10
def shR (o : Nat) (r : Int × Int × Int) : Int × Int × Int := (r.1, r.2.1 + (o : Int), r.2.2)
theorem Beh.drop {y b : ByteArray} {o : Nat} (h : Beh y b o) (j : Nat) : y.data.toList.drop (o + j) = b.data.toList.drop j := by rw [← h.l, List.drop_drop]
theorem Beh.byte {y b : ByteArray} {o : Nat} (h : Beh y b o) (j : Nat) : byteAt y (o + j) = byteAt b j := by
  have h1 := byteAt_drop y (o + j) 0
  have h2 := byteAt_drop b j 0
  rw [h.drop] at h1
  rw [Nat.add_zero] at h1 h2
  omega
theorem Beh.cut {y b : ByteArray} {o : Nat} (h : Beh y b o) (a e : Nat) : cutS y (o + a) (o + e) = cutS b a e := by
  apply ba_ext
  rw [cut_list, cut_list, h.drop, show o + e - (o + a) = e - a by omega]
theorem Beh.dec {y b : ByteArray} {o : Nat} (h : Beh y b o) (e : Nat) : nOf y (o + e) = nOf b e ∧ pOf y (o + e) = pOf b e ∧ gOf y (o + e) = gOf b e := by
  have hz := h.z
  by_cases c : e < b.size
  · have e1 : Utf8.decode y (o + e) = Utf8.decode b e := by rw [← decodeL_drop, ← decodeL_drop, h.drop]
    rw [nOf_dec b e c, pOf_dec b e c, gOf_dec b e c, nOf_dec y _ (by omega), pOf_dec y _ (by omega), gOf_dec y _ (by omega), e1]
    exact ⟨rfl, rfl, rfl⟩
  · have h1 := nOf_end b e (by omega)
    have h2 := nOf_end y (o + e) (by omega)
    rw [h1.1, h1.2.1, h1.2.2, h2.1, h2.2.1, h2.2.2]
    exact ⟨rfl, rfl, rfl⟩
theorem nm_sh {y b : ByteArray} {o : Nat} (H : Beh y b o) (a : Nat) (k : Nat) : ∀ k' e, b.size < e + k → y.size < o + e + k' → e ≤ b.size → nmGo y (o + a) k' (o + e) = shR o (nmGo b a k e) := by
  have hz := H.z
  induction k with
  | zero => intro k' e h1 h2 h3; omega
  | succ k ih =>
    intro k' e h1 h2 h3
    obtain ⟨k', rfl⟩ : ∃ m, k' = m + 1 := ⟨k' - 1, by omega⟩
    obtain ⟨d1, d2, d3⟩ := H.dec e
    have hk : keyB (y.extract (o + a) (o + e)) = keyB (b.extract a e) := by rw [cutS_in, cutS_in, H.cut]
    unfold nmGo
    rw [d1, d2, d3, hk]
    by_cases c : e < b.size ∧ gOf b e = true ∧ partB (pOf b e) = true
    · rw [if_pos c, if_pos (show o + e < y.size ∧ _ from ⟨by omega, c.2⟩)]
      have hn := nOf_bd b e c.1
      by_cases c2 : 65535 + a < e + nOf b e
      · rw [if_pos c2, if_pos (show 65535 + (o + a) < o + e + nOf b e by omega)]; unfold shR; simp; omega
      · rw [if_neg c2, if_neg (show ¬ 65535 + (o + a) < o + e + nOf b e by omega), Nat.add_assoc]
        exact ih k' _ (by omega) (by omega) (by omega)
    · rw [if_neg c, if_neg (show ¬ (o + e < y.size ∧ _) from fun h => c ⟨by omega, h.2⟩)]
      split <;> (unfold shR; simp; omega)
theorem nb_sh {y b : ByteArray} {o : Nat} (H : Beh y b o) (a : Nat) (k : Nat) : ∀ k' e, b.size < e + k → y.size < o + e + k' → e ≤ b.size → nbGo y (o + a) k' (o + e) = shR o (nbGo b a k e) := by
  have hz := H.z
  induction k with
  | zero => intro k' e h1 h2 h3; omega
  | succ k ih =>
    intro k' e h1 h2 h3
    obtain ⟨k', rfl⟩ : ∃ m, k' = m + 1 := ⟨k' - 1, by omega⟩
    obtain ⟨d1, d2, d3⟩ := H.dec e
    unfold nbGo
    rw [d1, d2]
    by_cases c : e < b.size ∧ 48 ≤ pOf b e ∧ pOf b e ≤ 57
    · rw [if_pos c, if_pos (show o + e < y.size ∧ _ from ⟨by omega, c.2⟩)]
      have hn := nOf_bd b e c.1
      by_cases c2 : 65535 + a < e + nOf b e
      · rw [if_pos c2, if_pos (show 65535 + (o + a) < o + e + nOf b e by omega)]; unfold shR; simp; omega
      · rw [if_neg c2, if_neg (show ¬ 65535 + (o + a) < o + e + nOf b e by omega), Nat.add_assoc]
        exact ih k' _ (by omega) (by omega) (by omega)
    · rw [if_neg c, if_neg (show ¬ (o + e < y.size ∧ _) from fun h => c ⟨by omega, h.2⟩)]
      unfold shR; simp; omega
theorem qt_sh {y b : ByteArray} {o : Nat} (H : Beh y b o) (a : Nat) (k : Nat) : ∀ k' e, b.size < e + k → y.size < o + e + k' → e ≤ b.size → qtGo y (o + a) k' (o + e) = shR o (qtGo b a k e) := by
  have hz := H.z
  induction k with
  | zero => intro k' e h1 h2 h3; omega
  | succ k ih =>
    intro k' e h1 h2 h3
    obtain ⟨k', rfl⟩ : ∃ m, k' = m + 1 := ⟨k' - 1, by omega⟩
    obtain ⟨d1, d2, d3⟩ := H.dec e
    have hc : ctlB y (o + e) = ctlB b e := by unfold ctlB; rw [d2, d3]
    unfold qtGo
    rw [d1, d2, hc]
    by_cases c : ¬ e < b.size ∨ pOf b e = 10
    · rw [if_pos c, if_pos (show ¬ o + e < y.size ∨ pOf b e = 10 from c.imp_left (fun h => by omega))]; unfold shR; simp; omega
    rw [if_neg c, if_neg (show ¬ (¬ o + e < y.size ∨ pOf b e = 10) from fun h => c (h.imp_left (fun h => by omega)))]
    have hn := nOf_bd b e (by omega)
    by_cases c2 : 65535 + a < e + nOf b e
    · rw [if_pos c2, if_pos (show 65535 + (o + a) < o + e + nOf b e by omega)]; unfold shR; simp; omega
    rw [if_neg c2, if_neg (show ¬ 65535 + (o + a) < o + e + nOf b e by omega)]
    by_cases c3 : ctlB b e = true
    · rw [if_pos c3, if_pos c3]; unfold shR; simp; omega
    rw [if_neg c3, if_neg c3]
    by_cases c4 : pOf b e = 34
    · rw [if_pos c4, if_pos c4]; unfold shR; simp; omega
    rw [if_neg c4, if_neg c4, Nat.add_assoc]
    exact ih k' _ (by omega) (by omega) (by omega)
theorem cm_sh {y b : ByteArray} {o : Nat} (H : Beh y b o) (a : Nat) (line : Bool) (k : Nat) : ∀ k' e, b.size < e + k → y.size < o + e + k' → e ≤ b.size → cmGo y (o + a) line k' (o + e) = shR o (cmGo b a line k e) := by
  have hz := H.z
  induction k with
  | zero => intro k' e h1 h2 h3; omega
  | succ k ih =>
    intro k' e h1 h2 h3
    obtain ⟨k', rfl⟩ : ∃ m, k' = m + 1 := ⟨k' - 1, by omega⟩
    obtain ⟨d1, d2, d3⟩ := H.dec e
    have hlt : (¬ o + e < y.size) = (¬ e < b.size) := propext ⟨fun h => by omega, fun h => by omega⟩
    have hov : (65535 + (o + a) < o + e + nOf b e) = (65535 + a < e + nOf b e) := propext ⟨fun h => by omega, fun h => by omega⟩
    unfold cmGo
    rw [d1, d2]
    simp only [hlt, hov]
    by_cases c : line = true ∧ (¬ e < b.size ∨ pOf b e = 10)
    · rw [if_pos c, if_pos c]; unfold shR; simp; omega
    rw [if_neg c, if_neg c]
    by_cases c1 : ¬ e < b.size
    · rw [if_pos c1, if_pos c1]; unfold shR; simp; omega
    rw [if_neg c1, if_neg c1]
    have hn := nOf_bd b e (by omega)
    by_cases c2 : 65535 + a < e + nOf b e
    · rw [if_pos c2, if_pos c2]; unfold shR; simp; omega
    rw [if_neg c2, if_neg c2]
    by_cases c4 : line = false ∧ pOf b e = 125
    · rw [if_pos c4, if_pos c4]; unfold shR; simp; omega
    rw [if_neg c4, if_neg c4, Nat.add_assoc]
    exact ih k' _ (by omega) (by omega) (by omega)
theorem sg_sh {y b : ByteArray} {o : Nat} (H : Beh y b o) (a e : Nat) : sgV y (o + a) (o + e) = shR o (sgV b a e) := by
  have hz := H.z
  obtain ⟨d1, d2, d3⟩ := H.dec e
  obtain ⟨g1, g2, g3⟩ := H.dec (e + nOf b e)
  have hc : ctlB y (o + e) = ctlB b e := by unfold ctlB; rw [d2, d3]
  have hlt : ∀ e, (¬ o + e < y.size) = (¬ e < b.size) := fun e => propext ⟨fun h => by omega, fun h => by omega⟩
  unfold sgV
  rw [d1, d2, hc, Nat.add_assoc o e, g1, g2]
  simp only [hlt]
  repeat' split
  all_goals (unfold shR; simp; try omega)
theorem one_sh {y b : ByteArray} {o : Nat} (H : Beh y b o) (m : Nat) (hm : m < b.size) : oneV y (o + m) = shR o (oneV b m) := by
  have hz := H.z
  obtain ⟨d1, d2, d3⟩ := H.dec m
  have hn := nOf_bd b m hm
  have hs : slB y (o + m) = slB b m := by unfold slB; rw [H.drop]
  unfold oneV
  rw [d1, d2, d3, hs, H.drop, H.byte, Nat.add_assoc, nm_sh H m (b.size + 1) _ _ (by omega) (by omega) hn.2.2, nb_sh H m (b.size + 1) _ _ (by omega) (by omega) hn.2.2, qt_sh H m (b.size + 1) _ _ (by omega) (by omega) hn.2.2, cm_sh H m _ (b.size + 1) _ _ (by omega) (by omega) hn.2.2, sg_sh H]
  by_cases c1 : gOf b m = true ∧ ltrB (pOf b m) = true
  · rw [if_pos c1, if_pos c1]
  rw [if_neg c1, if_neg c1]
  by_cases c2 : 48 ≤ pOf b m ∧ pOf b m ≤ 57
  · rw [if_pos c2, if_pos c2]
  rw [if_neg c2, if_neg c2]
  by_cases c3 : pOf b m = 34
  · rw [if_pos c3, if_pos c3]
  rw [if_neg c3, if_neg c3]
  by_cases c4 : pOf b m = 39
  · rw [if_pos c4, if_pos c4]
  rw [if_neg c4, if_neg c4]
  by_cases c5 : pOf b m = 123 ∨ slB b m = true
  · rw [if_pos c5, if_pos c5]
  rw [if_neg c5, if_neg c5]
  by_cases c6 : signL (b.data.toList.drop m) = []
  · rw [if_pos c6, if_pos c6]; unfold shR; simp; omega
  · rw [if_neg c6, if_neg c6]; unfold shR; simp; omega
theorem ws_sh {y b : ByteArray} {o : Nat} (H : Beh y b o) (a : Nat) : wsE y (o + a) = o + wsE b a := by unfold wsE; rw [H.drop]; omega
theorem nl_sh {y b : ByteArray} {o : Nat} (H : Beh y b o) : ∀ m, nlAt y (o + m) = nlAt y o + nlAt b m ∧ fromAt y (o + m) = o + fromAt b m
  | 0 => by
    have hp := H.p
    have e : fromAt y (o - 1 + 1) = o - 1 + 1 := by unfold fromAt; rw [if_pos H.n]
    rw [show o - 1 + 1 = o by omega] at e
    exact ⟨rfl, e⟩
  | m + 1 => by
    obtain ⟨h1, h2⟩ := nl_sh H m
    rw [← Nat.add_assoc, nlAt, fromAt, H.byte]
    have e1 : nlAt b (m + 1) = if byteAt b m = 10 then nlAt b m + 1 else nlAt b m := rfl
    have e2 : fromAt b (m + 1) = if byteAt b m = 10 then m + 1 else fromAt b m := rfl
    rw [e1, e2, h1, h2]
    by_cases c : byteAt b m = 10
    · rw [if_pos c, if_pos c, if_pos c, if_pos c]; omega
    · rw [if_neg c, if_neg c, if_neg c, if_neg c]; omega
theorem plT_sh {y b : ByteArray} {o : Nat} (H : Beh y b o) (m : Nat) : plT y (o + m) = ((plT b m).1 + (o : Int), (plT b m).2.1 + (nlAt y o : Int), (plT b m).2.2) := by
  obtain ⟨h1, h2⟩ := nl_sh H m
  have hc : colN y (o + m) = colN b m := by
    unfold colN
    rw [h2, List.drop_take, List.drop_take, H.drop, show o + m - (o + fromAt b m) = m - fromAt b m by omega]
  unfold plT
  rw [hc, h1]
  simp only [Prod.mk.injEq]
  exact ⟨by omega, by omega, trivial⟩
/-- A token further back in a longer source. -/
def shT (o d : Nat) (t : S35) : S35 := match t with | ⟨k, x, ⟨a, l, c⟩, f⟩ => ⟨k, x, ⟨a + (o : Int), l + (d : Int), c⟩, f⟩
theorem tk_sh {y b : ByteArray} {o : Nat} (H : Beh y b o) (a m E : Nat) (r : Int × Int × Int) (hr : r.2.1 = (E : Int)) : tkV y (o + a) (o + m) (shR o r) = shT o (nlAt y o) (tkV b a m r) := by
  have htx : txV y (o + m) (shR o r) = txV b m r := by
    unfold txV
    rw [show (shR o r).1 = r.1 from rfl, show (shR o r).2.1 = ((o + E : Nat) : Int) by unfold shR; simp only; omega, hr, Int.toNat_natCast, Int.toNat_natCast, H.cut]
  unfold tkV shT
  rw [htx, plT_sh H, (nl_sh H m).1, (nl_sh H a).1, show nlAt y o + nlAt b m - (nlAt y o + nlAt b a) = nlAt b m - nlAt b a by omega]
  rfl
theorem sc_sh {y b : ByteArray} {o : Nat} (H : Beh y b o) (k : Nat) : ∀ k' a, CB b a → b.size < a + k → y.size < o + a + k' →
    (scS y k' (o + a)).1 = (scS b k a).1.map (shT o (nlAt y o)) ∧ (scS y k' (o + a)).2.1 = (scS b k a).2.1 ∧ ((scS b k a).2.1 ≠ 0 → (scS y k' (o + a)).2.2 = o + (scS b k a).2.2) := by
  have hz := H.z
  induction k with
  | zero => intro k' a h h1; have := h.1; omega
  | succ k ih =>
    intro k' a hC h1 h2
    obtain ⟨k', rfl⟩ : ∃ m, k' = m + 1 := ⟨k' - 1, by have := hC.1; omega⟩
    obtain ⟨w1, w2, w3⟩ := wsE_fin b a hC
    unfold scS
    rw [ws_sh H]
    generalize wsE b a = m at *
    by_cases c0 : m = b.size
    · rw [if_pos c0, if_pos (show o + m = y.size by omega)]
      exact ⟨rfl, rfl, fun h => absurd rfl h⟩
    rw [if_neg c0, if_neg (show ¬ o + m = y.size by omega), one_sh H m (by omega)]
    obtain ⟨E, q1, q2, q3, q4, q5⟩ := one_fin b m (by omega) w3
    rw [show (shR o (oneV b m)).2.2 = (oneV b m).2.2 from rfl, show (shR o (oneV b m)).2.1.toNat = o + E by unfold shR; simp only; rw [q1]; omega, q1, Int.toNat_natCast]
    by_cases c2 : (oneV b m).2.2 = 0
    · have q6 := q5 c2
      rw [if_pos c2, if_pos c2, tk_sh H a m E _ q1]
      obtain ⟨i1, i2, i3⟩ := ih k' E q4 (by omega) (by omega)
      refine ⟨?_, i2, i3⟩
      rw [List.map_cons, i1]
    · rw [if_neg c2, if_neg c2]
      exact ⟨rfl, rfl, fun _ => rfl⟩
theorem sc_zero (s : ByteArray) (k : Nat) : ∀ a, (scS s k a).2.1 = 0 → (scS s k a).2.2 = 0 := by
  induction k with
  | zero => intro a _; rfl
  | succ k ih =>
    intro a h
    unfold scS at h ⊢
    by_cases c0 : wsE s a = s.size
    · rw [if_pos c0]
    rw [if_neg c0] at h ⊢
    by_cases c2 : (oneV s (wsE s a)).2.2 = 0
    · rw [if_pos c2] at h ⊢; exact ih _ h
    · rw [if_neg c2] at h; exact absurd h c2
/-- The one's tokens, in the whole. -/
theorem sc_head (y : ByteArray) (n : Nat) (hN : NL y n) (k : Nat) : ∀ (k' a : Nat), CB (cutS y 0 n) a → n < a + k → y.size < a + k' → (scS (cutS y 0 n) k a).2.1 = 0 →
    ∃ k'' a', a' ≤ n ∧ wsE (cutS y 0 n) a' = n ∧ y.size < a' + k'' ∧ (scS y k' a).1 = (scS (cutS y 0 n) k a).1 ++ (scS y k'' a').1 ∧ (scS y k' a).2 = (scS y k'' a').2 := by
  have hn := Nat.le_of_lt hN.1
  have hz := cut0_size y n hn
  induction k with
  | zero => intro k' a h h1; have := h.1; omega
  | succ k ih =>
    intro k' a hCB h1 h2 h0
    obtain ⟨k', rfl⟩ : ∃ m, k' = m + 1 := ⟨k' - 1, by have := hCB.1; omega⟩
    obtain ⟨w1, w2, w3⟩ := wsE_fin (cutS y 0 n) a hCB
    have ha : a ≤ n := by have := hCB.1; omega
    rw [hz] at w2
    have hws := ws_pre y n a hn ha
    by_cases c0 : wsE (cutS y 0 n) a = n
    · refine ⟨k' + 1, a, ha, c0, h2, ?_, rfl⟩
      have : (scS (cutS y 0 n) (k + 1) a).1 = [] := by unfold scS; rw [hz, if_pos c0]
      rw [this]; rfl
    unfold scS at h0
    rw [hz, if_neg c0] at h0
    have ew : wsE y a = wsE (cutS y 0 n) a := by omega
    rw [show scS (cutS y 0 n) (k + 1) a = _ from by rw [scS]]
    rw [show scS y (k' + 1) a = _ from by rw [scS]]
    rw [hz, if_neg c0, ew, if_neg (show ¬ wsE (cutS y 0 n) a = y.size by have := hN.1; omega)]
    generalize hm : wsE (cutS y 0 n) a = m at *
    obtain ⟨E, q1, q2, q3, q4, q5⟩ := one_fin (cutS y 0 n) m (by omega) w3
    have hEm : (oneV (cutS y 0 n) m).2.1.toNat = E := by rw [q1]; simp
    by_cases c2 : (oneV (cutS y 0 n) m).2.2 = 0
    · have q6 := q5 c2
      rw [if_pos c2, hEm] at h0 ⊢
      simp only at h0
      rw [hz] at q3
      rcases one_pre y n m hn (by omega) E q1 q6 c2 (.inr hN) with e | ⟨c, t⟩
      · rw [e, if_pos c2, hEm]
        obtain ⟨k'', a', r1, r2, r3, r4, r5⟩ := ih k' E q4 (by omega) (by omega) h0
        refine ⟨k'', a', r1, r2, r3, ?_, r5⟩
        rw [tk_pre y n a m E _ w1 w2 q1 q3]
        simp only
        rw [r4, List.cons_append]
      · exact absurd t (hN.tr c)
    · rw [if_neg c2] at h0; exact absurd h0 c2
theorem ws_join (l r : Bs) (h : wsN l = l.length) : wsN (l ++ 10 :: r) = l.length + 1 + wsN r := by
  unfold wsN at *
  induction l with
  | nil => rw [List.nil_append, List.takeWhile_cons, if_pos (by decide)]; simp; omega
  | cons b l ih =>
    rw [List.takeWhile_cons] at h
    by_cases c : wsB b = true
    · rw [if_pos c] at h
      rw [List.cons_append, List.takeWhile_cons, if_pos c, List.length_cons, ih (by simpa using h)]; simp; omega
    · rw [if_neg c] at h; simp at h
/-- The first of a row at other line ends. -/
def fdT (f : Int) : List S35 → List S35
  | [] => []
  | ⟨k, x, p, _⟩ :: l => ⟨k, x, p, f⟩ :: l
theorem sc_join (y b : ByteArray) (n : Nat) (hN : NL y n) (H : Beh y b (n + 1)) (h0 : (scV (cutS y 0 n)).2.1 = 0) : ∃ f,
    (scV y).1 = (scV (cutS y 0 n)).1 ++ fdT f ((scV b).1.map (shT (n + 1) (nlAt y (n + 1)))) ∧ (scV y).2.1 = (scV b).2.1 ∧ ((scV b).2.1 ≠ 0 → (scV y).2.2 = n + 1 + (scV b).2.2) := by
  have hn := Nat.le_of_lt hN.1
  have hz := cut0_size y n hn
  have hyz := H.z
  unfold scV at h0 ⊢
  obtain ⟨k, a, h1, h2, h3, h4, h5⟩ := sc_head y n hN _ (y.size + 1) 0 (CB_zero _) (by omega) (by omega) h0
  obtain ⟨k, rfl⟩ : ∃ m, k = m + 1 := ⟨k - 1, by omega⟩
  obtain ⟨s1, s2, s3⟩ := sc_sh H (b.size + 1) (k + 1 + n + 1) 0 (CB_zero b) (by omega) (by omega)
  rw [Nat.add_zero] at s1 s2 s3
  rw [h4, h5]
  have hw : wsE y a = n + 1 + wsE b 0 := by
    have e1 : y.data.toList.drop a = (cutS y 0 n).data.toList.drop a ++ 10 :: b.data.toList := by
      rw [cut0_drop, ← H.l]
      refine (List.take_append_drop (n - a) (y.data.toList.drop a)).symm.trans ?_
      congr 1
      · rw [List.drop_drop, show a + (n - a) = n by omega]
        have hlt : n < y.data.toList.length := by rw [size_len]; exact hN.1
        rw [List.drop_eq_getElem_cons hlt]
        congr 1
        have := byteAt_drop y n 0
        rw [List.drop_eq_getElem_cons hlt, show byteAt y (n + 0) = 10 from hN.2] at this
        exact UInt8.toNat_inj.1 (by simpa using this)
    have e2 : ((cutS y 0 n).data.toList.drop a).length = n - a := by rw [List.length_drop, size_len, hz]
    have e3 : wsN ((cutS y 0 n).data.toList.drop a) = n - a := by unfold wsE at h2; omega
    unfold wsE
    rw [e1, ws_join _ _ (by rw [e2, e3]), e2, List.drop_zero]; omega
  have hw2 : wsE y (n + 1) = n + 1 + wsE b 0 := by have := ws_sh H 0; simpa using this
  obtain ⟨w1, w2, w3⟩ := wsE_fin b 0 (CB_zero b)
  -- from the line end's place the same, but for the first token's line ends
  have key : ∀ K K' : Nat, y.size < a + (K + 1) → y.size < n + 1 + (K' + 1) → (scS y (K + 1) a).2 = (scS y (K' + 1) (n + 1)).2 ∧ ∃ f, (scS y (K + 1) a).1 = fdT f (scS y (K' + 1) (n + 1)).1 := by
    intro K K' g1 g2
    unfold scS
    rw [hw, hw2]
    by_cases c0 : n + 1 + wsE b 0 = y.size
    · rw [if_pos c0, if_pos c0]; exact ⟨rfl, 0, rfl⟩
    rw [if_neg c0, if_neg c0]
    have hone := one_sh H (wsE b 0) (by omega)
    obtain ⟨E, q1, q2, q3, q4, q5⟩ := one_fin b (wsE b 0) (by omega) w3
    have hE : (oneV y (n + 1 + wsE b 0)).2.1.toNat = n + 1 + E := by rw [hone]; unfold shR; simp only; rw [q1]; omega
    have h22 : (oneV y (n + 1 + wsE b 0)).2.2 = (oneV b (wsE b 0)).2.2 := by rw [hone]; rfl
    by_cases c2 : (oneV y (n + 1 + wsE b 0)).2.2 = 0
    · have q6 := q5 (by rw [← h22]; exact c2)
      rw [if_pos c2, if_pos c2, hE]
      obtain ⟨j1, j2, j3⟩ := sc_sh H (b.size + 1) K E q4 (by omega) (by omega)
      obtain ⟨l1, l2, l3⟩ := sc_sh H (b.size + 1) K' E q4 (by omega) (by omega)
      have j4 : (scS y K (n + 1 + E)).2.1 = (scS y K' (n + 1 + E)).2.1 := by rw [j2, l2]
      have j5 : (scS y K (n + 1 + E)).2.2 = (scS y K' (n + 1 + E)).2.2 := by
        by_cases c : (scS b (b.size + 1) E).2.1 = 0
        · rw [sc_zero _ _ _ (by rw [j2]; exact c), sc_zero _ _ _ (by rw [l2]; exact c)]
        · rw [j3 c, l3 c]
      refine ⟨Prod.ext j4 j5, ((nlAt y (n + 1 + wsE b 0) - nlAt y a : Nat) : Int), ?_⟩
      rw [j1, l1]; rfl
    · rw [if_neg c2, if_neg c2]; exact ⟨rfl, 0, rfl⟩
  obtain ⟨g1, f, g2⟩ := key k (k + n + 1) h3 (by omega)
  rw [show k + 1 + n + 1 = k + n + 1 + 1 by omega] at s1 s2 s3
  refine ⟨f, ?_, ?_, ?_⟩
  · rw [g2, s1]
  · rw [g1]; exact s2
  · rw [g1]; exact s3
end Go.Proofs.YtdphhmigbbgjmaaDoor
