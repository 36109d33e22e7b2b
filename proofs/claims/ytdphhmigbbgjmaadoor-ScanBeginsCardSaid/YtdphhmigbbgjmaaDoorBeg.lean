/- A text's beginning scanned: its tokens are the text's. Plain Lean; conditions: the beginning is scanned without an error. -/
import Derived.Test.YtdphhmigbbgjmaaDoorM5
import Derived.Test.YtdphhmigbbgjmaaDoorBegA
namespace Go.Proofs.YtdphhmigbbgjmaaDoor
open Go.RowKit Go.Lib
open PScan
set_option linter.unusedVariables false
set_option linter.unusedSimpArgs false
theorem tk_pre (y : ByteArray) (n a m E : Nat) (r : Int × Int × Int) (ham : a ≤ m) (hm : m ≤ n) (hE : r.2.1 = (E : Int)) (hEn : E ≤ n) : tkV (cutS y 0 n) a m r = tkV y a m r := by
  have htx : txV (cutS y 0 n) m r = txV y m r := by
    unfold txV
    rw [hE, Int.toNat_natCast, cut0_cut y n m E hEn]
  unfold tkV
  rw [htx, (plT_pre y n m hm).1, (plT_pre y n m hm).2, (plT_pre y n a (by omega)).2]
/-- All tokens of a beginning but the last are the text's first ones. -/
theorem sc_pre (y : ByteArray) (n : Nat) (hn : n ≤ y.size) (k : Nat) : ∀ (k' a : Nat), CB (cutS y 0 n) a → n < a + k → y.size < a + k' → (scS (cutS y 0 n) k a).2.1 = 0 →
    ∃ r, (scS y k' a).1 = (scS (cutS y 0 n) k a).1.dropLast ++ r := by
  have hz := cut0_size y n hn
  induction k with
  | zero => intro k' a h h1; have := h.1; omega
  | succ k ih =>
    intro k' a hCB h1 h2 h0
    obtain ⟨k', rfl⟩ : ∃ m, k' = m + 1 := ⟨k' - 1, by have := hCB.1; omega⟩
    obtain ⟨w1, w2, w3⟩ := wsE_fin (cutS y 0 n) a hCB
    have ha : a ≤ n := by have := hCB.1; omega
    rw [hz] at w2
    have hws := ws_pre y n a hn ha
    unfold scS at h0 ⊢
    rw [hz] at h0 ⊢
    by_cases c0 : wsE (cutS y 0 n) a = n
    · rw [if_pos c0]; exact ⟨_, rfl⟩
    rw [if_neg c0] at h0 ⊢
    have ew : wsE y a = wsE (cutS y 0 n) a := by omega
    rw [ew, if_neg (show ¬ wsE (cutS y 0 n) a = y.size by omega)]
    generalize hm : wsE (cutS y 0 n) a = m at *
    obtain ⟨E, q1, q2, q3, q4, q5⟩ := one_fin (cutS y 0 n) m (by omega) w3
    have hEm : (oneV (cutS y 0 n) m).2.1.toNat = E := by rw [q1]; simp
    by_cases c2 : (oneV (cutS y 0 n) m).2.2 = 0
    · have q6 := q5 c2
      rw [if_pos c2, hEm] at h0 ⊢
      simp only at h0
      rw [hz] at q3
      by_cases c3 : E = n
      · have : (scS (cutS y 0 n) k E).1 = [] := by
          cases k with
          | zero => rfl
          | succ k =>
            obtain ⟨v1, v2, _⟩ := wsE_fin (cutS y 0 n) E q4
            unfold scS; rw [hz, if_pos (by omega)]
        rw [this]; exact ⟨_, rfl⟩
      · rcases one_pre y n m hn (by omega) E q1 q6 c2 (.inl (by omega)) with e | ⟨_, t⟩
        · rw [e, if_pos c2, hEm]
          obtain ⟨r, hr⟩ := ih k' E q4 (by omega) (by omega) h0
          rw [tk_pre y n a m E _ w1 w2 q1 q3]
          cases hl : (scS (cutS y 0 n) k E).1 with
          | nil => exact ⟨_, rfl⟩
          | cons x l =>
            rw [hl] at hr
            exact ⟨r, by simp only; rw [hr, List.dropLast_cons_cons]; rfl⟩
        · exfalso
          obtain ⟨k, rfl⟩ : ∃ j, k = j + 1 := ⟨k - 1, by omega⟩
          obtain ⟨g1, g2⟩ := tr_high y n E hn (by omega) t
          have hb := g1 E (Nat.le_refl _) (by omega)
          have hwE : wsE (cutS y 0 n) E = E := by
            obtain ⟨v1, v2, _⟩ := wsE_fin (cutS y 0 n) E q4
            by_cases c : wsN ((cutS y 0 n).data.toList.drop E) = 0
            · unfold wsE; omega
            · have h7 := ws_low _ (ws_bytes ((cutS y 0 n).data.toList.drop E) 0 (by omega))
              rw [byteAt_drop, Nat.add_zero, cut0_byte y n E (by omega)] at h7
              omega
          unfold scS at h0
          rw [hwE, hz, if_neg c3, if_neg (one_high _ E (by omega) (by rw [cut0_byte y n E (by omega)]; exact hb) g2)] at h0
          exact one_high _ E (by omega) (by rw [cut0_byte y n E (by omega)]; exact hb) g2 h0
    · rw [if_neg c2] at h0; exact absurd h0 c2
end Go.Proofs.YtdphhmigbbgjmaaDoor
