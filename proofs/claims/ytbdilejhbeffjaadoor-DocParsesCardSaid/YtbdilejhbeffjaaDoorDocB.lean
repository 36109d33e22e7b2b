/- Pieces of a layout in memory; package doc's edge and right. No condition. -/
import Derived.Test.YtbdilejhbeffjaaDoorProg
import Derived.WalkKit
import Derived.Test.YtbdilejhbeffjaaDoorUtf
import Derived.Test.YtbdilejhbeffjaaDoorBytes
import Derived.Test.YtbdilejhbeffjaaDoorHeap
import Derived.Lib.Hide
import Derived.Deep.QuietTactic
import Derived.BigQuiet
namespace Go.Proofs.YtbdilejhbeffjaaDoor
open Go.RowKit Go.Lib
attribute [local go_sem] byteAt_get wrap64_byteAt
/-- A piece of a layout. -/
structure DocV where
  k : Nat
  t : ByteArray
  b : Int
  n : Int
  e : Bool
def DocV.agg (d : DocV) : Value := .agg #[.int .u8 d.k, .string d.t, .int .i64 d.b, .int .i64 d.n, .bool d.e]
def edgeN (c : Nat) : Bool := decide (c = 32) || decide (c = 10)
/-- May a piece be? -/
def rightB (d : DocV) : Bool :=
  if d.k = 1 then decide (1 ≤ d.t.size ∧ d.t.size ≤ 65535) && !edgeN (byteAt d.t 0) && !edgeN (byteAt d.t (d.t.size - 1)) && decide (d.b = 0 ∧ d.n = 0 ∧ d.e = false)
  else if d.k = 6 then decide (0 ≤ d.n ∧ d.n ≤ 1000) && decide (d.b = 0 ∧ d.t.size = 0)
  else if d.k = 3 then decide (0 ≤ d.b ∧ d.b ≤ 1000) && decide (d.n = 0 ∧ d.t.size = 0 ∧ d.e = false)
  else if d.k = 2 ∨ d.k = 4 ∨ d.k = 5 ∨ d.k = 7 then decide (d.b = 0 ∧ d.n = 0 ∧ d.t.size = 0 ∧ d.e = false)
  else false
set_option maxHeartbeats 4000000 in
theorem doc_edge (c : Nat) (w : World) : Calls Tryd.prog 69 #[.int .u8 c] w fun e w' => e = .returned (.bool (edgeN c)) ∧ w' = w := by
  by_cases h1 : c = 32
  · subst h1
    go_enter Tryd.func69, Tryd.ntmps69
    go_wp2
    go_ret
    exact ⟨rfl, rfl⟩
  · have hb1 : ((c : Int) == 32) = false := by simp; omega
    by_cases h2 : c = 10
    · subst h2
      go_enter Tryd.func69, Tryd.ntmps69
      go_wp2
      go_ret
      exact ⟨rfl, rfl⟩
    · have hb2 : ((c : Int) == 10) = false := by simp; omega
      have he : edgeN c = false := by simp [edgeN, h1, h2]
      replace he := Lib.hid he; replace h1 := Lib.hid h1; replace h2 := Lib.hid h2
      go_enter Tryd.func69, Tryd.ntmps69
      go_wp2
      go_ret
      rw [he.out]
      first | exact ⟨rfl, rfl⟩ | simp
theorem no_bytes (t : ByteArray) (h : t.toList = []) : t.size = 0 := by
  have h1 : t.toList.isEmpty = true := by rw [h]; rfl
  rw [← decide_eq_emptyBytes] at h1
  simp at h1; subst h1; rfl
set_option maxHeartbeats 4000000 in
set_option maxRecDepth 100000 in
theorem doc_right (d : DocV) (w : World) : Calls Tryd.prog 42 #[d.agg] w fun e w' => e = .returned (.bool (rightB d)) ∧ Below w.heap.size w w' := by
  obtain ⟨k, t, b, n, e⟩ := d
  unfold DocV.agg
  simp only
  by_cases k2 : k = 2
  · subst k2
    by_cases hzz : b = 0 ∧ n = 0 ∧ t.size = 0 ∧ e = false
    · obtain ⟨rfl, rfl, ht, rfl⟩ := hzz
      obtain rfl : t = ⟨#[]⟩ := by cases t with | mk d => simp [ByteArray.size] at ht; subst ht; rfl
      go_enter Tryd.func42, Tryd.ntmps42
      go_wp2
      go_ret
      exact ⟨rfl, by repeat (first | exact Below.refl _ _ | refine Below.setCell ?_ (by simp) _ | refine Below.alloc ?_ (by simp) _)⟩
    · have hr : rightB ⟨2, t, b, n, e⟩ = false := by simp only [rightB]; simp; intro h1 h2 h3; cases e <;> simp_all
      have hz : t.toList = [] → b = 0 → n = 0 → ¬ e = true → False := fun h1 h2 h3 h4 => hzz ⟨h2, h3, no_bytes t h1, by simpa using h4⟩
      rw [hr]
      clear hzz hr
      go_enter Tryd.func42, Tryd.ntmps42
      go_wp2
      all_goals
        go_ret
        first
          | exact ⟨rfl, by repeat (first | exact Below.refl _ _ | refine Below.setCell ?_ (by simp) _ | refine Below.alloc ?_ (by simp) _)⟩
          | (exfalso; exact hz (by assumption) (by assumption) (by assumption) (by assumption))
          | (exfalso; exact hz (by assumption) (by assumption) (by assumption))
          | (exfalso; exact hz (by assumption) (by assumption))
  by_cases k4 : k = 4
  · subst k4
    by_cases hzz : b = 0 ∧ n = 0 ∧ t.size = 0 ∧ e = false
    · obtain ⟨rfl, rfl, ht, rfl⟩ := hzz
      obtain rfl : t = ⟨#[]⟩ := by cases t with | mk d => simp [ByteArray.size] at ht; subst ht; rfl
      go_enter Tryd.func42, Tryd.ntmps42
      go_wp2
      go_ret
      exact ⟨rfl, by repeat (first | exact Below.refl _ _ | refine Below.setCell ?_ (by simp) _ | refine Below.alloc ?_ (by simp) _)⟩
    · have hr : rightB ⟨4, t, b, n, e⟩ = false := by simp only [rightB]; simp; intro h1 h2 h3; cases e <;> simp_all
      have hz : t.toList = [] → b = 0 → n = 0 → ¬ e = true → False := fun h1 h2 h3 h4 => hzz ⟨h2, h3, no_bytes t h1, by simpa using h4⟩
      rw [hr]
      clear hzz hr
      go_enter Tryd.func42, Tryd.ntmps42
      go_wp2
      all_goals
        go_ret
        first
          | exact ⟨rfl, by repeat (first | exact Below.refl _ _ | refine Below.setCell ?_ (by simp) _ | refine Below.alloc ?_ (by simp) _)⟩
          | (exfalso; exact hz (by assumption) (by assumption) (by assumption) (by assumption))
          | (exfalso; exact hz (by assumption) (by assumption) (by assumption))
          | (exfalso; exact hz (by assumption) (by assumption))
  by_cases k5 : k = 5
  · subst k5
    by_cases hzz : b = 0 ∧ n = 0 ∧ t.size = 0 ∧ e = false
    · obtain ⟨rfl, rfl, ht, rfl⟩ := hzz
      obtain rfl : t = ⟨#[]⟩ := by cases t with | mk d => simp [ByteArray.size] at ht; subst ht; rfl
      go_enter Tryd.func42, Tryd.ntmps42
      go_wp2
      go_ret
      exact ⟨rfl, by repeat (first | exact Below.refl _ _ | refine Below.setCell ?_ (by simp) _ | refine Below.alloc ?_ (by simp) _)⟩
    · have hr : rightB ⟨5, t, b, n, e⟩ = false := by simp only [rightB]; simp; intro h1 h2 h3; cases e <;> simp_all
      have hz : t.toList = [] → b = 0 → n = 0 → ¬ e = true → False := fun h1 h2 h3 h4 => hzz ⟨h2, h3, no_bytes t h1, by simpa using h4⟩
      rw [hr]
      clear hzz hr
      go_enter Tryd.func42, Tryd.ntmps42
      go_wp2
      all_goals
        go_ret
        first
          | exact ⟨rfl, by repeat (first | exact Below.refl _ _ | refine Below.setCell ?_ (by simp) _ | refine Below.alloc ?_ (by simp) _)⟩
          | (exfalso; exact hz (by assumption) (by assumption) (by assumption) (by assumption))
          | (exfalso; exact hz (by assumption) (by assumption) (by assumption))
          | (exfalso; exact hz (by assumption) (by assumption))
  by_cases k7 : k = 7
  · subst k7
    by_cases hzz : b = 0 ∧ n = 0 ∧ t.size = 0 ∧ e = false
    · obtain ⟨rfl, rfl, ht, rfl⟩ := hzz
      obtain rfl : t = ⟨#[]⟩ := by cases t with | mk d => simp [ByteArray.size] at ht; subst ht; rfl
      go_enter Tryd.func42, Tryd.ntmps42
      go_wp2
      go_ret
      exact ⟨rfl, by repeat (first | exact Below.refl _ _ | refine Below.setCell ?_ (by simp) _ | refine Below.alloc ?_ (by simp) _)⟩
    · have hr : rightB ⟨7, t, b, n, e⟩ = false := by simp only [rightB]; simp; intro h1 h2 h3; cases e <;> simp_all
      have hz : t.toList = [] → b = 0 → n = 0 → ¬ e = true → False := fun h1 h2 h3 h4 => hzz ⟨h2, h3, no_bytes t h1, by simpa using h4⟩
      rw [hr]
      clear hzz hr
      go_enter Tryd.func42, Tryd.ntmps42
      go_wp2
      all_goals
        go_ret
        first
          | exact ⟨rfl, by repeat (first | exact Below.refl _ _ | refine Below.setCell ?_ (by simp) _ | refine Below.alloc ?_ (by simp) _)⟩
          | (exfalso; exact hz (by assumption) (by assumption) (by assumption) (by assumption))
          | (exfalso; exact hz (by assumption) (by assumption) (by assumption))
          | (exfalso; exact hz (by assumption) (by assumption))
  by_cases k6 : k = 6
  · subst k6
    by_cases hzz : (0 ≤ n ∧ n ≤ 1000) ∧ b = 0 ∧ t.size = 0
    · obtain ⟨⟨hn1, hn2⟩, rfl, ht⟩ := hzz
      obtain rfl : t = ⟨#[]⟩ := by cases t with | mk d => simp [ByteArray.size] at ht; subst ht; rfl
      have hr : rightB ⟨6, ⟨#[]⟩, 0, n, e⟩ = true := by simp [rightB, hn1, hn2, ByteArray.size]
      rw [hr]
      clear hr
      go_enter Tryd.func42, Tryd.ntmps42
      go_wp2
      go_ret
      exact ⟨rfl, by repeat (first | exact Below.refl _ _ | refine Below.setCell ?_ (by simp) _ | refine Below.alloc ?_ (by simp) _)⟩
    · by_cases hn1 : n < 0
      · have hr : rightB ⟨6, t, b, n, e⟩ = false := by simp only [rightB]; simp; intro h1 h2 h3 h4; exact hzz ⟨⟨h1, h2⟩, h3, by rw [h4]; rfl⟩
        have hz : False → False := id
        rw [hr]
        clear hzz hr
        go_enter Tryd.func42, Tryd.ntmps42
        go_wp2
        all_goals
          go_ret
          first
            | exact ⟨rfl, by repeat (first | exact Below.refl _ _ | refine Below.setCell ?_ (by simp) _ | refine Below.alloc ?_ (by simp) _)⟩
            | (exfalso; exact hz (by assumption) (by assumption) (by assumption) (by assumption))
            | (exfalso; exact hz (by assumption) (by assumption) (by assumption))
            | (exfalso; exact hz (by assumption) (by assumption))
      by_cases hn2 : 1000 < n
      · have hr : rightB ⟨6, t, b, n, e⟩ = false := by simp only [rightB]; simp; intro h1 h2 h3 h4; exact hzz ⟨⟨h1, h2⟩, h3, by rw [h4]; rfl⟩
        have hz : False → False := id
        rw [hr]
        clear hzz hr
        go_enter Tryd.func42, Tryd.ntmps42
        go_wp2
        all_goals
          go_ret
          first
            | exact ⟨rfl, by repeat (first | exact Below.refl _ _ | refine Below.setCell ?_ (by simp) _ | refine Below.alloc ?_ (by simp) _)⟩
            | (exfalso; exact hz (by assumption) (by assumption) (by assumption) (by assumption))
            | (exfalso; exact hz (by assumption) (by assumption) (by assumption))
            | (exfalso; exact hz (by assumption) (by assumption))
      have hr : rightB ⟨6, t, b, n, e⟩ = false := by simp only [rightB]; simp; intro h1 h2 h3 h4; exact hzz ⟨⟨h1, h2⟩, h3, by rw [h4]; rfl⟩
      have hz : t.toList = [] → b = 0 → False := fun h1 h2 => hzz ⟨⟨by omega, by omega⟩, h2, no_bytes t h1⟩
      rw [hr]
      clear hzz hr
      go_enter Tryd.func42, Tryd.ntmps42
      go_wp2
      all_goals
        go_ret
        first
          | exact ⟨rfl, by repeat (first | exact Below.refl _ _ | refine Below.setCell ?_ (by simp) _ | refine Below.alloc ?_ (by simp) _)⟩
          | (exfalso; exact hz (by assumption) (by assumption) (by assumption) (by assumption))
          | (exfalso; exact hz (by assumption) (by assumption) (by assumption))
          | (exfalso; exact hz (by assumption) (by assumption))
  by_cases k3 : k = 3
  · subst k3
    by_cases hzz : (0 ≤ b ∧ b ≤ 1000) ∧ n = 0 ∧ t.size = 0 ∧ e = false
    · obtain ⟨⟨hn1, hn2⟩, rfl, ht, rfl⟩ := hzz
      obtain rfl : t = ⟨#[]⟩ := by cases t with | mk d => simp [ByteArray.size] at ht; subst ht; rfl
      have hr : rightB ⟨3, ⟨#[]⟩, b, 0, false⟩ = true := by simp [rightB, hn1, hn2, ByteArray.size]
      rw [hr]
      clear hr
      go_enter Tryd.func42, Tryd.ntmps42
      go_wp2
      go_ret
      exact ⟨rfl, by repeat (first | exact Below.refl _ _ | refine Below.setCell ?_ (by simp) _ | refine Below.alloc ?_ (by simp) _)⟩
    · by_cases hn1 : b < 0
      · have hr : rightB ⟨3, t, b, n, e⟩ = false := by simp only [rightB]; simp; omega
        have hz : False → False := id
        rw [hr]
        clear hzz hr
        go_enter Tryd.func42, Tryd.ntmps42
        go_wp2
        all_goals
          go_ret
          first
            | exact ⟨rfl, by repeat (first | exact Below.refl _ _ | refine Below.setCell ?_ (by simp) _ | refine Below.alloc ?_ (by simp) _)⟩
            | (exfalso; exact hz (by assumption) (by assumption) (by assumption) (by assumption))
            | (exfalso; exact hz (by assumption) (by assumption) (by assumption))
            | (exfalso; exact hz (by assumption) (by assumption))
      by_cases hn2 : 1000 < b
      · have hr : rightB ⟨3, t, b, n, e⟩ = false := by simp only [rightB]; simp; omega
        have hz : False → False := id
        rw [hr]
        clear hzz hr
        go_enter Tryd.func42, Tryd.ntmps42
        go_wp2
        all_goals
          go_ret
          first
            | exact ⟨rfl, by repeat (first | exact Below.refl _ _ | refine Below.setCell ?_ (by simp) _ | refine Below.alloc ?_ (by simp) _)⟩
            | (exfalso; exact hz (by assumption) (by assumption) (by assumption) (by assumption))
            | (exfalso; exact hz (by assumption) (by assumption) (by assumption))
            | (exfalso; exact hz (by assumption) (by assumption))
      have hr : rightB ⟨3, t, b, n, e⟩ = false := by simp only [rightB]; simp; intro h1 h2 h3 h4; cases e <;> simp_all
      have hz : t.toList = [] → n = 0 → ¬ e = true → False := fun h1 h2 h3 => hzz ⟨⟨by omega, by omega⟩, h2, no_bytes t h1, by simpa using h3⟩
      rw [hr]
      clear hzz hr
      go_enter Tryd.func42, Tryd.ntmps42
      go_wp2
      all_goals
        go_ret
        first
          | exact ⟨rfl, by repeat (first | exact Below.refl _ _ | refine Below.setCell ?_ (by simp) _ | refine Below.alloc ?_ (by simp) _)⟩
          | (exfalso; exact hz (by assumption) (by assumption) (by assumption) (by assumption))
          | (exfalso; exact hz (by assumption) (by assumption) (by assumption))
          | (exfalso; exact hz (by assumption) (by assumption))
  by_cases k1 : k = 1
  · subst k1
    have hbd : ∀ i, byteAt t i < 256 := byteAt_lt t
    by_cases h1 : t.size < 1
    · have hr : rightB ⟨1, t, b, n, e⟩ = false := by simp [rightB]; omega
      rw [hr]; clear hr
      have h1' : (t.size : Int) < 1 := by omega
      go_enter Tryd.func42, Tryd.ntmps42
      go_wp2_with fail
      go_ret
      exact ⟨rfl, by repeat (first | exact Below.refl _ _ | refine Below.setCell ?_ (by simp) _ | refine Below.alloc ?_ (by simp) _)⟩
    by_cases h2 : 65535 < t.size
    · have hr : rightB ⟨1, t, b, n, e⟩ = false := by simp [rightB]; omega
      rw [hr]; clear hr
      have h1' : ¬ (t.size : Int) < 1 := by omega
      have h2' : (65535 : Int) < t.size := by omega
      go_enter Tryd.func42, Tryd.ntmps42
      go_wp2_with fail
      go_ret
      exact ⟨rfl, by repeat (first | exact Below.refl _ _ | refine Below.setCell ?_ (by simp) _ | refine Below.alloc ?_ (by simp) _)⟩
    obtain ⟨m, hm⟩ : ∃ m, m + 1 = t.size := ⟨t.size - 1, by omega⟩
    have hmm : t.size - 1 = m := by omega
    have h1' : ¬ (t.size : Int) < 1 := by omega
    have h2' : ¬ (65535 : Int) < t.size := by omega
    have h0' : (0 : Int) < t.size := by omega
    have hm1 : (m : Int) < t.size := by omega
    have hm2 : (0 : Int) ≤ m := by omega
    have wz : IntKind.i64.wrap ((t.size : Int) - 1) = m := by rw [show (t.size : Int) - 1 = m by omega]; exact IntWalk.i64_in _ (by omega)
    replace hm := Lib.hid hm
    obtain ⟨c0, hc0⟩ : ∃ c, byteAt t 0 = c := ⟨_, rfl⟩
    obtain ⟨c1, hc1⟩ : ∃ c, byteAt t m = c := ⟨_, rfl⟩
    have he0 : ∀ W, Calls Tryd.prog 69 #[.int .u8 c0] W fun e' w' => e' = .returned (.bool (edgeN c0)) ∧ w' = W := fun W => doc_edge c0 W
    have he1 : ∀ W, Calls Tryd.prog 69 #[.int .u8 c1] W fun e' w' => e' = .returned (.bool (edgeN c1)) ∧ w' = W := fun W => doc_edge c1 W
    cases hE0 : edgeN c0
    · cases hE1 : edgeN c1
      · rw [hE0] at he0; rw [hE1] at he1
        replace he0 := Lib.hid he0; replace he1 := Lib.hid he1
        by_cases hzz : b = 0 ∧ n = 0 ∧ e = false
        · obtain ⟨rfl, rfl, rfl⟩ := hzz
          have hr : rightB ⟨1, t, 0, 0, false⟩ = true := by simp [rightB, hmm, hc0, hc1, hE0, hE1]; omega
          rw [hr]; clear hr
          replace hE0 := Lib.hid hE0; replace hE1 := Lib.hid hE1; replace hmm := Lib.hid hmm
          go_enter Tryd.func42, Tryd.ntmps42
          go_wp2_with fail
          refine (he0.out _).mono ?_
          rintro e' w1 ⟨rfl, rfl⟩
          go_wp2_with fail
          refine (he1.out _).mono ?_
          rintro e' w1 ⟨rfl, rfl⟩
          go_wp2_with fail
          go_ret
          exact ⟨rfl, by repeat (first | exact Below.refl _ _ | refine Below.setCell ?_ (by simp) _ | refine Below.alloc ?_ (by simp) _)⟩
        · have hr : rightB ⟨1, t, b, n, e⟩ = false := by simp [rightB]; intro _ _ _ _ h1 h2; cases e <;> simp_all
          rw [hr]; clear hr
          have hz : b = 0 → n = 0 → ¬ e = true → False := fun h1 h2 h3 => hzz ⟨h1, h2, by simpa using h3⟩
          clear hzz
          replace hE0 := Lib.hid hE0; replace hE1 := Lib.hid hE1; replace hmm := Lib.hid hmm
          go_enter Tryd.func42, Tryd.ntmps42
          go_wp2_with fail
          refine (he0.out _).mono ?_
          rintro e' w1 ⟨rfl, rfl⟩
          go_wp2_with fail
          refine (he1.out _).mono ?_
          rintro e' w1 ⟨rfl, rfl⟩
          go_wp2_with fail
          all_goals
            go_ret
            first
              | exact ⟨rfl, by repeat (first | exact Below.refl _ _ | refine Below.setCell ?_ (by simp) _ | refine Below.alloc ?_ (by simp) _)⟩
              | (exfalso; exact hz (by assumption) (by assumption) (by assumption))
      · rw [hE0] at he0; rw [hE1] at he1
        have hr : rightB ⟨1, t, b, n, e⟩ = false := by simp [rightB, hmm, hc1, hE1]
        rw [hr]; clear hr
        replace he0 := Lib.hid he0; replace he1 := Lib.hid he1; replace hE0 := Lib.hid hE0; replace hE1 := Lib.hid hE1; replace hmm := Lib.hid hmm
        go_enter Tryd.func42, Tryd.ntmps42
        go_wp2_with fail
        refine (he0.out _).mono ?_
        rintro e' w1 ⟨rfl, rfl⟩
        go_wp2_with fail
        refine (he1.out _).mono ?_
        rintro e' w1 ⟨rfl, rfl⟩
        go_wp2_with fail
        go_ret
        exact ⟨rfl, by repeat (first | exact Below.refl _ _ | refine Below.setCell ?_ (by simp) _ | refine Below.alloc ?_ (by simp) _)⟩
    · rw [hE0] at he0
      have hr : rightB ⟨1, t, b, n, e⟩ = false := by simp [rightB, hc0, hE0]
      rw [hr]; clear hr
      replace he0 := Lib.hid he0; replace he1 := Lib.hid he1; replace hE0 := Lib.hid hE0; replace hmm := Lib.hid hmm
      go_enter Tryd.func42, Tryd.ntmps42
      go_wp2_with fail
      refine (he0.out _).mono ?_
      rintro e' w1 ⟨rfl, rfl⟩
      go_wp2_with fail
      go_ret
      exact ⟨rfl, by repeat (first | exact Below.refl _ _ | refine Below.setCell ?_ (by simp) _ | refine Below.alloc ?_ (by simp) _)⟩
  have hr : rightB ⟨k, t, b, n, e⟩ = false := by simp [rightB, k1, k2, k3, k4, k5, k6, k7]
  rw [hr]
  clear hr
  go_enter Tryd.func42, Tryd.ntmps42
  go_wp2
  go_ret
  exact ⟨rfl, by repeat (first | exact Below.refl _ _ | refine Below.setCell ?_ (by simp) _ | refine Below.alloc ?_ (by simp) _)⟩
end Go.Proofs.YtbdilejhbeffjaaDoor
