/- The law ScanBegins, reckoned over the plain scan. -/
import Derived.Test.YtdphhmigbbgjmaaDoorBeg
import Derived.Test.YtdphhmigbbgjmaaDoorM5
import Derived.Test.YtdphhmigbbgjmaaDoorPScan11
namespace Go.Proofs.YtdphhmigbbgjmaaDoor
open Go.RowKit Go.Lib
open PScan
open Go.Proofs.YtdphhmigbbgjmaaDoorW.PrintWords
set_option linter.unusedVariables false
set_option linter.unusedSimpArgs false
theorem int_wf {z : Int} (hz : (Lit.int .i64 z).wf = true) : -9223372036854775808 ≤ z ∧ z ≤ 9223372036854775807 := by
  have hm : IntKind.i64.min = -9223372036854775808 := by decide
  have hM : IntKind.i64.max = 9223372036854775807 := by decide
  simp [Lit.wf, hm, hM] at hz
  omega
theorem begins_j (s : ByteArray) (hs : s.size ≤ 67108864) (c : Int) (h0 : 0 ≤ c) (h1 : c ≤ 9223372036854775807) (k : Nat) (hk : s.size + 20 ≤ k) : colophonlaw10_ScanBegins.j1 (k + 1) s c = some true := by
  have e1 : wrap64 ((s.size : Int) + 1) = (s.size : Int) + 1 := w64 (by omega) (by omega)
  obtain ⟨n, hn⟩ : ∃ n : Nat, Int.tmod c ((s.size : Int) + 1) = (n : Int) := ⟨(Int.tmod c ((s.size : Int) + 1)).toNat, by have := Int.tmod_nonneg ((s.size : Int) + 1) h0; omega⟩
  have hlt : (n : Int) < (s.size : Int) + 1 := by rw [← hn]; exact Int.tmod_lt_of_pos c (by omega)
  have hns : n ≤ s.size := by omega
  have hz := cut0_size s n hns
  rw [colophonlaw10_ScanBegins.j1, e1, if_neg (by omega), hn, if_pos (by omega), if_pos (by omega), Int.toNat_natCast, all_at (cutS s 0 n) (by omega) (by omega), Option.bind_some, all_at s (by omega) (by omega), Option.bind_some]
  obtain ⟨k, rfl⟩ : ∃ m, k = m + 1 := ⟨k - 1, by omega⟩
  have hT : ∀ a b, colophonlaw10_ScanBegins.j2 (k + 1) a b true = some true := fun a b => by rw [colophonlaw10_ScanBegins.j2, if_pos rfl]
  rw [hT]
  by_cases c1 : (allV (cutS s 0 n)).2.1 = 0
  · rw [if_pos c1]
    by_cases c2 : (allV s).2.1 = 0
    · rw [if_pos c2]
      obtain ⟨r, hr⟩ := sc_pre s n hns ((cutS s 0 n).size + 1) (s.size + 1) 0 (CB_zero _) (by omega) (by omega) c1
      have hr : (allV s).1 = (allV (cutS s 0 n)).1.dropLast ++ r := hr
      have hl1 := all_len (cutS s 0 n)
      have hl2 := all_len s
      generalize (allV (cutS s 0 n)).1 = L at *
      generalize (allV s).1 = M at *
      rw [colophonlaw10_ScanBegins.j2]
      by_cases c3 : L.length = 0
      · rw [if_pos (by simp [c3])]
      · rw [if_neg (by simp; intro h; rw [h] at c3; simp at c3)]
        have e2 : wrap64 ((L.length : Int) - 1) = ((L.length - 1 : Nat) : Int) := by rw [w64 (by omega) (by omega)]; omega
        have hle : L.length - 1 ≤ M.length := by rw [hr, List.length_append, List.length_dropLast]; omega
        rw [e2, if_neg (by omega), if_pos (by omega), if_pos (by omega), if_pos (by omega), Int.toNat_natCast]
        have e3 : M.take (L.length - 1) = L.take (L.length - 1) := by
          rw [hr, List.take_append_of_le_length (by rw [List.length_dropLast]; exact Nat.le_refl _), List.dropLast_eq_take, List.take_take, Nat.min_self]
        rw [e3, same_at _ (by rw [List.length_take]; omega) (by rw [List.length_take]; omega)]
        rfl
    · rw [if_neg c2]
  · rw [if_neg c1]
theorem begins_f (s : ByteArray) (c : Int) (h1 : -9223372036854775808 ≤ c ∧ c ≤ 9223372036854775807) : colophonlaw10_ScanBegins.f (s.size + 100) s c = some true := by
  have hj : ∀ b, colophonlaw10_ScanBegins.j0 (s.size + 100) s c true b = some true ∨ (b = false ∧ ¬ s.size ≤ 67108864) := fun b => by
    cases b with
    | true => left; rw [colophonlaw10_ScanBegins.j0, if_pos rfl]
    | false =>
      by_cases hs : s.size ≤ 67108864
      · left
        rw [colophonlaw10_ScanBegins.j0, if_neg ff]
        by_cases c0 : c < 0
        · rw [if_pos c0, w64 (x := c + 1) (by omega) (by omega), w64 (by omega) (by omega)]
          exact begins_j s hs _ (by omega) (by omega) (s.size + 98) (by omega)
        · rw [if_neg c0]; exact begins_j s hs _ (by omega) (by omega) (s.size + 98) (by omega)
      · exact .inr ⟨rfl, hs⟩
  rw [colophonlaw10_ScanBegins.f, awake10_at (by omega), Option.bind_some, if_pos rfl]
  rcases hj (decide ((s.size : Int) > 67108864)) with h | ⟨h, h2⟩
  · exact h
  · simp at h; omega
end Go.Proofs.YtdphhmigbbgjmaaDoor
