/- The reference right pieces (07 Right). No condition. -/
import Derived.Test.YtbdilejhbeffjaaDoorDocB
namespace Go.Proofs.YtbdilejhbeffjaaDoor
open Go.RowKit Go.Lib
attribute [local go_sem] byteAt_get wrap64_byteAt
set_option maxHeartbeats 4000000 in
set_option maxRecDepth 100000 in
theorem r7_Right (d : DocV) (w : World) : Calls Tryd.prog 32 #[d.agg] w fun e w' => e = .returned (.bool (rightB d)) ∧ Below w.heap.size w w' := by
  obtain ⟨k, t, b, n, e⟩ := d
  unfold DocV.agg
  simp only
  by_cases k2 : k = 2
  · subst k2
    by_cases hzz : b = 0 ∧ n = 0 ∧ t.size = 0 ∧ e = false
    · obtain ⟨rfl, rfl, ht, rfl⟩ := hzz
      obtain rfl : t = ⟨#[]⟩ := by cases t with | mk d => simp [ByteArray.size] at ht; subst ht; rfl
      go_enter Tryd.func32, Tryd.ntmps32
      go_wp2
      go_ret
      exact ⟨rfl, by repeat (first | exact Below.refl _ _ | refine Below.setCell ?_ (by simp) _ | refine Below.alloc ?_ (by simp) _)⟩
    · have hr : rightB ⟨2, t, b, n, e⟩ = false := by simp only [rightB]; simp; intro h1 h2 h3; cases e <;> simp_all
      have hz : t.toList = [] → b = 0 → n = 0 → ¬ e = true → False := fun h1 h2 h3 h4 => hzz ⟨h2, h3, no_bytes t h1, by simpa using h4⟩
      rw [hr]
      clear hzz hr
      go_enter Tryd.func32, Tryd.ntmps32
      go_wp2
      all_goals
        go_ret
        first
          | exact ⟨rfl, by repeat (first | exact Below.refl _ _ | refine Below.setCell ?_ (by simp) _ | refine Below.alloc ?_ (by simp) _)⟩
          | (exfalso; exact hz (by assumption) (by assumption) (by assumption) (by assumption))
          | (exfalso; exact hz (by assumption) (by assumption) (by assumption))
          | (exfalso; exact hz (by assumption) (by assumption))
  by_cases k4 : k = 4
  · subst k4
    by_cases hzz : b = 0 ∧ n = 0 ∧ t.size = 0 ∧ e = false
    · obtain ⟨rfl, rfl, ht, rfl⟩ := hzz
      obtain rfl : t = ⟨#[]⟩ := by cases t with | mk d => simp [ByteArray.size] at ht; subst ht; rfl
      go_enter Tryd.func32, Tryd.ntmps32
      go_wp2
      go_ret
      exact ⟨rfl, by repeat (first | exact Below.refl _ _ | refine Below.setCell ?_ (by simp) _ | refine Below.alloc ?_ (by simp) _)⟩
    · have hr : rightB ⟨4, t, b, n, e⟩ = false := by simp only [rightB]; simp; intro h1 h2 h3; cases e <;> simp_all
      have hz : t.toList = [] → b = 0 → n = 0 → ¬ e = true → False := fun h1 h2 h3 h4 => hzz ⟨h2, h3, no_bytes t h1, by simpa using h4⟩
      rw [hr]
      clear hzz hr
      go_enter Tryd.func32, Tryd.ntmps32
      go_wp2
      all_goals
        go_ret
        first
          | exact ⟨rfl, by repeat (first | exact Below.refl _ _ | refine Below.setCell ?_ (by simp) _ | refine Below.alloc ?_ (by simp) _)⟩
          | (exfalso; exact hz (by assumption) (by assumption) (by assumption) (by assumption))
          | (exfalso; exact hz (by assumption) (by assumption) (by assumption))
          | (exfalso; exact hz (by assumption) (by assumption))
  by_cases k5 : k = 5
  · subst k5
    by_cases hzz : b = 0 ∧ n = 0 ∧ t.size = 0 ∧ e = false
    · obtain ⟨rfl, rfl, ht, rfl⟩ := hzz
      obtain rfl : t = ⟨#[]⟩ := by cases t with | mk d => simp [ByteArray.size] at ht; subst ht; rfl
      go_enter Tryd.func32, Tryd.ntmps32
      go_wp2
      go_ret
      exact ⟨rfl, by repeat (first | exact Below.refl _ _ | refine Below.setCell ?_ (by simp) _ | refine Below.alloc ?_ (by simp) _)⟩
    · have hr : rightB ⟨5, t, b, n, e⟩ = false := by simp only [rightB]; simp; intro h1 h2 h3; cases e <;> simp_all
      have hz : t.toList = [] → b = 0 → n = 0 → ¬ e = true → False := fun h1 h2 h3 h4 => hzz ⟨h2, h3, no_bytes t h1, by simpa using h4⟩
      rw [hr]
      clear hzz hr
      go_enter Tryd.func32, Tryd.ntmps32
      go_wp2
      all_goals
        go_ret
        first
          | exact ⟨rfl, by repeat (first | exact Below.refl _ _ | refine Below.setCell ?_ (by simp) _ | refine Below.alloc ?_ (by simp) _)⟩
          | (exfalso; exact hz (by assumption) (by assumption) (by assumption) (by assumption))
          | (exfalso; exact hz (by assumption) (by assumption) (by assumption))
          | (exfalso; exact hz (by assumption) (by assumption))
  by_cases k7 : k = 7
  · subst k7
    by_cases hzz : b = 0 ∧ n = 0 ∧ t.size = 0 ∧ e = false
    · obtain ⟨rfl, rfl, ht, rfl⟩ := hzz
      obtain rfl : t = ⟨#[]⟩ := by cases t with | mk d => simp [ByteArray.size] at ht; subst ht; rfl
      go_enter Tryd.func32, Tryd.ntmps32
      go_wp2
      go_ret
      exact ⟨rfl, by repeat (first | exact Below.refl _ _ | refine Below.setCell ?_ (by simp) _ | refine Below.alloc ?_ (by simp) _)⟩
    · have hr : rightB ⟨7, t, b, n, e⟩ = false := by simp only [rightB]; simp; intro h1 h2 h3; cases e <;> simp_all
      have hz : t.toList = [] → b = 0 → n = 0 → ¬ e = true → False := fun h1 h2 h3 h4 => hzz ⟨h2, h3, no_bytes t h1, by simpa using h4⟩
      rw [hr]
      clear hzz hr
      go_enter Tryd.func32, Tryd.ntmps32
      go_wp2
      all_goals
        go_ret
        first
          | exact ⟨rfl, by repeat (first | exact Below.refl _ _ | refine Below.setCell ?_ (by simp) _ | refine Below.alloc ?_ (by simp) _)⟩
          | (exfalso; exact hz (by assumption) (by assumption) (by assumption) (by assumption))
          | (exfalso; exact hz (by assumption) (by assumption) (by assumption))
          | (exfalso; exact hz (by assumption) (by assumption))
  by_cases k6 : k = 6
  · subst k6
    by_cases hzz : (0 ≤ n ∧ n ≤ 1000) ∧ b = 0 ∧ t.size = 0
    · obtain ⟨⟨hn1, hn2⟩, rfl, ht⟩ := hzz
      obtain rfl : t = ⟨#[]⟩ := by cases t with | mk d => simp [ByteArray.size] at ht; subst ht; rfl
      have hr : rightB ⟨6, ⟨#[]⟩, 0, n, e⟩ = true := by simp [rightB, hn1, hn2, ByteArray.size]
      rw [hr]
      clear hr
      go_enter Tryd.func32, Tryd.ntmps32
      go_wp2
      go_ret
      exact ⟨rfl, by repeat (first | exact Below.refl _ _ | refine Below.setCell ?_ (by simp) _ | refine Below.alloc ?_ (by simp) _)⟩
    · by_cases hn1 : n < 0
      · have hr : rightB ⟨6, t, b, n, e⟩ = false := by simp only [rightB]; simp; intro h1 h2 h3 h4; exact hzz ⟨⟨h1, h2⟩, h3, by rw [h4]; rfl⟩
        have hz : False → False := id
        rw [hr]
        clear hzz hr
        go_enter Tryd.func32, Tryd.ntmps32
        go_wp2
        all_goals
          go_ret
          first
            | exact ⟨rfl, by repeat (first | exact Below.refl _ _ | refine Below.setCell ?_ (by simp) _ | refine Below.alloc ?_ (by simp) _)⟩
            | (exfalso; exact hz (by assumption) (by assumption) (by assumption) (by assumption))
            | (exfalso; exact hz (by assumption) (by assumption) (by assumption))
            | (exfalso; exact hz (by assumption) (by assumption))
      by_cases hn2 : 1000 < n
      · have hr : rightB ⟨6, t, b, n, e⟩ = false := by simp only [rightB]; simp; intro h1 h2 h3 h4; exact hzz ⟨⟨h1, h2⟩, h3, by rw [h4]; rfl⟩
        have hz : False → False := id
        rw [hr]
        clear hzz hr
        go_enter Tryd.func32, Tryd.ntmps32
        go_wp2
        all_goals
          go_ret
          first
            | exact ⟨rfl, by repeat (first | exact Below.refl _ _ | refine Below.setCell ?_ (by simp) _ | refine Below.alloc ?_ (by simp) _)⟩
            | (exfalso; exact hz (by assumption) (by assumption) (by assumption) (by assumption))
            | (exfalso; exact hz (by assumption) (by assumption) (by assumption))
            | (exfalso; exact hz (by assumption) (by assumption))
      have hr : rightB ⟨6, t, b, n, e⟩ = false := by simp only [rightB]; simp; intro h1 h2 h3 h4; exact hzz ⟨⟨h1, h2⟩, h3, by rw [h4]; rfl⟩
      have hz : t.toList = [] → b = 0 → False := fun h1 h2 => hzz ⟨⟨by omega, by omega⟩, h2, no_bytes t h1⟩
      rw [hr]
      clear hzz hr
      go_enter Tryd.func32, Tryd.ntmps32
      go_wp2
      all_goals
        go_ret
        first
          | exact ⟨rfl, by repeat (first | exact Below.refl _ _ | refine Below.setCell ?_ (by simp) _ | refine Below.alloc ?_ (by simp) _)⟩
          | (exfalso; exact hz (by assumption) (by assumption) (by assumption) (by assumption))
          | (exfalso; exact hz (by assumption) (by assumption) (by assumption))
          | (exfalso; exact hz (by assumption) (by assumption))
  by_cases k3 : k = 3
  · subst k3
    by_cases hzz : (0 ≤ b ∧ b ≤ 1000) ∧ n = 0 ∧ t.size = 0 ∧ e = false
    · obtain ⟨⟨hn1, hn2⟩, rfl, ht, rfl⟩ := hzz
      obtain rfl : t = ⟨#[]⟩ := by cases t with | mk d => simp [ByteArray.size] at ht; subst ht; rfl
      have hr : rightB ⟨3, ⟨#[]⟩, b, 0, false⟩ = true := by simp [rightB, hn1, hn2, ByteArray.size]
      rw [hr]
      clear hr
      go_enter Tryd.func32, Tryd.ntmps32
      go_wp2
      go_ret
      exact ⟨rfl, by repeat (first | exact Below.refl _ _ | refine Below.setCell ?_ (by simp) _ | refine Below.alloc ?_ (by simp) _)⟩
    · by_cases hn1 : b < 0
      · have hr : rightB ⟨3, t, b, n, e⟩ = false := by simp only [rightB]; simp; omega
        have hz : False → False := id
        rw [hr]
        clear hzz hr
        go_enter Tryd.func32, Tryd.ntmps32
        go_wp2
        all_goals
          go_ret
          first
            | exact ⟨rfl, by repeat (first | exact Below.refl _ _ | refine Below.setCell ?_ (by simp) _ | refine Below.alloc ?_ (by simp) _)⟩
            | (exfalso; exact hz (by assumption) (by assumption) (by assumption) (by assumption))
            | (exfalso; exact hz (by assumption) (by assumption) (by assumption))
            | (exfalso; exact hz (by assumption) (by assumption))
      by_cases hn2 : 1000 < b
      · have hr : rightB ⟨3, t, b, n, e⟩ = false := by simp only [rightB]; simp; omega
        have hz : False → False := id
        rw [hr]
        clear hzz hr
        go_enter Tryd.func32, Tryd.ntmps32
        go_wp2
        all_goals
          go_ret
          first
            | exact ⟨rfl, by repeat (first | exact Below.refl _ _ | refine Below.setCell ?_ (by simp) _ | refine Below.alloc ?_ (by simp) _)⟩
            | (exfalso; exact hz (by assumption) (by assumption) (by assumption) (by assumption))
            | (exfalso; exact hz (by assumption) (by assumption) (by assumption))
            | (exfalso; exact hz (by assumption) (by assumption))
      have hr : rightB ⟨3, t, b, n, e⟩ = false := by simp only [rightB]; simp; intro h1 h2 h3 h4; cases e <;> simp_all
      have hz : t.toList = [] → n = 0 → ¬ e = true → False := fun h1 h2 h3 => hzz ⟨⟨by omega, by omega⟩, h2, no_bytes t h1, by simpa using h3⟩
      rw [hr]
      clear hzz hr
      go_enter Tryd.func32, Tryd.ntmps32
      go_wp2
      all_goals
        go_ret
        first
          | exact ⟨rfl, by repeat (first | exact Below.refl _ _ | refine Below.setCell ?_ (by simp) _ | refine Below.alloc ?_ (by simp) _)⟩
          | (exfalso; exact hz (by assumption) (by assumption) (by assumption) (by assumption))
          | (exfalso; exact hz (by assumption) (by assumption) (by assumption))
          | (exfalso; exact hz (by assumption) (by assumption))
  by_cases k1 : k = 1
  · subst k1
    by_cases h1 : t.size < 1
    · have hr : rightB ⟨1, t, b, n, e⟩ = false := by simp [rightB]; omega
      rw [hr]; clear hr
      have h1' : (t.size : Int) < 1 := by omega
      go_enter Tryd.func32, Tryd.ntmps32
      go_wp2_with fail
      go_ret
      exact ⟨rfl, by repeat (first | exact Below.refl _ _ | refine Below.setCell ?_ (by simp) _ | refine Below.alloc ?_ (by simp) _)⟩
    by_cases h2 : 65535 < t.size
    · have hr : rightB ⟨1, t, b, n, e⟩ = false := by simp [rightB]; omega
      rw [hr]; clear hr
      have h1' : ¬ (t.size : Int) < 1 := by omega
      have h2' : (65535 : Int) < t.size := by omega
      go_enter Tryd.func32, Tryd.ntmps32
      go_wp2_with fail
      go_ret
      exact ⟨rfl, by repeat (first | exact Below.refl _ _ | refine Below.setCell ?_ (by simp) _ | refine Below.alloc ?_ (by simp) _)⟩
    obtain ⟨m, hm⟩ : ∃ m, m + 1 = t.size := ⟨t.size - 1, by omega⟩
    have hmm : t.size - 1 = m := by omega
    have h1' : ¬ (t.size : Int) < 1 := by omega
    have h2' : ¬ (65535 : Int) < t.size := by omega
    have h0' : (0 : Int) < t.size := by omega
    have hm1 : (m : Int) < t.size := by omega
    have hm2 : (0 : Int) ≤ m := by omega
    have wz : IntKind.i64.wrap ((t.size : Int) - 1) = m := by rw [show (t.size : Int) - 1 = m by omega]; exact IntWalk.i64_in _ (by omega)
    have hsz : 1 ≤ t.size ∧ t.size ≤ 65535 := by omega
    replace hm := Lib.hid hm
    by_cases hbad : edgeN (byteAt t 0) = true ∨ edgeN (byteAt t m) = true
    · have hr : rightB ⟨1, t, b, n, e⟩ = false := by
        simp only [rightB, hmm]
        rcases hbad with h | h <;> simp [h]
      rw [hr]; clear hr
      replace hmm := Lib.hid hmm
      have hcs : byteAt t 0 = 32 ∨ (byteAt t 0 ≠ 32 ∧ byteAt t 0 = 10) ∨ (byteAt t 0 ≠ 32 ∧ byteAt t 0 ≠ 10 ∧ byteAt t m = 32) ∨ (byteAt t 0 ≠ 32 ∧ byteAt t 0 ≠ 10 ∧ byteAt t m ≠ 32 ∧ byteAt t m = 10) := by
        simp only [edgeN, Bool.or_eq_true, decide_eq_true_eq] at hbad
        omega
      clear hbad
      rcases hcs with h | ⟨g1, h⟩ | ⟨g1, g2, h⟩ | ⟨g1, g2, g3, h⟩
      · have f1 : ((byteAt t 0 : Int) == 32) = true := by simp; omega
        replace h := Lib.hid h
        go_enter Tryd.func32, Tryd.ntmps32
        go_wp2_with fail
        go_ret
        exact ⟨rfl, by repeat (first | exact Below.refl _ _ | refine Below.setCell ?_ (by simp) _ | refine Below.alloc ?_ (by simp) _)⟩
      · have f1 : ((byteAt t 0 : Int) == 32) = false := by simp; omega
        have f2 : ((byteAt t 0 : Int) == 10) = true := by simp; omega
        replace h := Lib.hid h
        go_enter Tryd.func32, Tryd.ntmps32
        go_wp2_with fail
        go_ret
        exact ⟨rfl, by repeat (first | exact Below.refl _ _ | refine Below.setCell ?_ (by simp) _ | refine Below.alloc ?_ (by simp) _)⟩
      · have f1 : ((byteAt t 0 : Int) == 32) = false := by simp; omega
        have f2 : ((byteAt t 0 : Int) == 10) = false := by simp; omega
        have f3 : ((byteAt t m : Int) == 32) = true := by simp; omega
        replace h := Lib.hid h
        go_enter Tryd.func32, Tryd.ntmps32
        go_wp2_with fail
        go_ret
        exact ⟨rfl, by repeat (first | exact Below.refl _ _ | refine Below.setCell ?_ (by simp) _ | refine Below.alloc ?_ (by simp) _)⟩
      · have f1 : ((byteAt t 0 : Int) == 32) = false := by simp; omega
        have f2 : ((byteAt t 0 : Int) == 10) = false := by simp; omega
        have f3 : ((byteAt t m : Int) == 32) = false := by simp; omega
        have f4 : ((byteAt t m : Int) == 10) = true := by simp; omega
        replace h := Lib.hid h
        go_enter Tryd.func32, Tryd.ntmps32
        go_wp2_with fail
        go_ret
        exact ⟨rfl, by repeat (first | exact Below.refl _ _ | refine Below.setCell ?_ (by simp) _ | refine Below.alloc ?_ (by simp) _)⟩
    have hg0 : edgeN (byteAt t 0) = false := by cases h : edgeN (byteAt t 0) <;> simp_all
    have hg1 : edgeN (byteAt t m) = false := by cases h : edgeN (byteAt t m) <;> simp_all
    have f1 : ((byteAt t 0 : Int) == 32) = false := by simp [edgeN] at hg0 ⊢; omega
    have f2 : ((byteAt t 0 : Int) == 10) = false := by simp [edgeN] at hg0 ⊢; omega
    have f3 : ((byteAt t m : Int) == 32) = false := by simp [edgeN] at hg1 ⊢; omega
    have f4 : ((byteAt t m : Int) == 10) = false := by simp [edgeN] at hg1 ⊢; omega
    by_cases hzz : b = 0 ∧ n = 0 ∧ e = false
    · obtain ⟨rfl, rfl, rfl⟩ := hzz
      have hr : rightB ⟨1, t, 0, 0, false⟩ = true := by simp [rightB, hmm, hg0, hg1, hsz]
      rw [hr]; clear hr
      replace hg0 := Lib.hid hg0; replace hg1 := Lib.hid hg1; replace hmm := Lib.hid hmm
      clear hbad
      go_enter Tryd.func32, Tryd.ntmps32
      go_wp2_with fail
      go_ret
      exact ⟨rfl, by repeat (first | exact Below.refl _ _ | refine Below.setCell ?_ (by simp) _ | refine Below.alloc ?_ (by simp) _)⟩
    · have hr : rightB ⟨1, t, b, n, e⟩ = false := by simp [rightB]; intro _ _ _ _ h1 h2; cases e <;> simp_all
      rw [hr]; clear hr
      have hz : b = 0 → n = 0 → ¬ e = true → False := fun h1 h2 h3 => hzz ⟨h1, h2, by simpa using h3⟩
      clear hzz hbad
      replace hg0 := Lib.hid hg0; replace hg1 := Lib.hid hg1; replace hmm := Lib.hid hmm
      go_enter Tryd.func32, Tryd.ntmps32
      go_wp2_with fail
      all_goals
        go_ret
        first
          | exact ⟨rfl, by repeat (first | exact Below.refl _ _ | refine Below.setCell ?_ (by simp) _ | refine Below.alloc ?_ (by simp) _)⟩
          | (exfalso; exact hz (by assumption) (by assumption) (by assumption))
  have hr : rightB ⟨k, t, b, n, e⟩ = false := by simp [rightB, k1, k2, k3, k4, k5, k6, k7]
  rw [hr]
  clear hr
  go_enter Tryd.func32, Tryd.ntmps32
  go_wp2
  go_ret
  exact ⟨rfl, by repeat (first | exact Below.refl _ _ | refine Below.setCell ?_ (by simp) _ | refine Below.alloc ?_ (by simp) _)⟩
end Go.Proofs.YtbdilejhbeffjaaDoor
