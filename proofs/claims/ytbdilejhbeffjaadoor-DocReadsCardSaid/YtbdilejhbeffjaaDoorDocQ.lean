/- What package doc prints is read, and what it reads is printed, in plain Lean. -/
import Derived.Test.YtbdilejhbeffjaaDoorDocP
namespace Go.Proofs.YtbdilejhbeffjaaDoor
open Go.RowKit Go.Lib Go.Proofs.YtbdilejhbeffjaaDoorW.PrintWords
open PDoc
set_option linter.unusedVariables false
set_option linter.unusedSimpArgs false
theorem ba_ext {x y : ByteArray} (h : x.data.toList = y.data.toList) : x = y := by
  cases x; cases y; simp at h; rw [h]
theorem cutL (s : ByteArray) (a b : Nat) : (cutS s a b).data.toList = (s.data.toList.drop a).take (b - a) := by unfold cutS; rw [extract_list]
theorem it_suf : ∀ n : Fin 1001, ∀ e : Bool, strings_CutSuffix.f ⟨(Lib.itoa (n.val : Int) ++ (if e = true then [32, 101, 118, 101, 110] else [])).toArray⟩ evenW = some (⟨(Lib.itoa (n.val : Int)).toArray⟩, e) := by decide +kernel
theorem it_ten : ∀ n : Fin 1001, (10 : UInt8) ∉ Lib.itoa (n.val : Int) := by decide +kernel
theorem esc_ten : ∀ c : Fin 256, (10 : UInt8) ∉ escB (UInt8.ofNat c.val) := by decide +kernel
theorem it_atoi : ∀ n : Fin 1001, atoiV (Lib.itoa (n.val : Int)) = (n.val : Int) := by decide +kernel
/-- A piece's line. -/
def LB (d : S33) : List UInt8 := lineB d.f0.toNat d.f1 d.f2 d.f3 d.f4
theorem lnB_LB (d : S33) : lnB d = LB d ++ [10] := rfl
theorem escL_ten (l : List UInt8) : (10 : UInt8) ∉ escL l := by
  unfold escL
  rw [List.mem_flatMap]
  rintro ⟨c, _, hc⟩
  have := esc_ten ⟨c.toNat, UInt8.toNat_lt c⟩
  simp at this
  exact this hc
theorem LB_ten (d : S33) (h : Good d) : (10 : UInt8) ∉ LB d ∧ 0 < (LB d).length := by
  obtain ⟨g1, g2, g3, g4, g5, g6, g7⟩ := good_ok h
  obtain ⟨k0, t, n, i, e⟩ := d
  simp only at g1 g2 g3 g4 g5 g6 g7
  obtain ⟨k, rfl⟩ := Int.eq_ofNat_of_zero_le (show 0 ≤ k0 by omega)
  unfold LB lineB
  simp only [Int.toNat_natCast]
  rcases (by omega : k = 1 ∨ k = 2 ∨ k = 3 ∨ k = 4 ∨ k = 5 ∨ k = 6 ∨ k = 7) with rfl | rfl | rfl | rfl | rfl | rfl | rfl
  · refine ⟨?_, by simp [wordB, wordsL]⟩
    rw [if_pos rfl, List.mem_append]
    rintro (h | h)
    · exact absurd h (by decide)
    · exact escL_ten _ h
  · exact ⟨by simp [wordB, wordsL], by simp [wordB, wordsL]⟩
  · obtain ⟨a, b, _⟩ := g5 rfl
    refine ⟨?_, by simp [wordB, wordsL]⟩
    rw [if_neg (by decide), if_pos rfl, List.mem_append]
    rintro (h | h)
    · exact absurd h (by decide)
    · have := it_ten ⟨n.toNat, by omega⟩
      rw [show ((⟨n.toNat, by omega⟩ : Fin 1001).val : Int) = n by simp; omega] at this
      exact this h
  · exact ⟨by simp [wordB, wordsL], by simp [wordB, wordsL]⟩
  · exact ⟨by simp [wordB, wordsL], by simp [wordB, wordsL]⟩
  · obtain ⟨a, b, _⟩ := g6 rfl
    refine ⟨?_, by simp [wordB, wordsL]⟩
    rw [if_neg (by decide), if_neg (by decide), if_pos rfl, List.mem_append, List.mem_append]
    rintro (h | h | h)
    · exact absurd h (by decide)
    · have := it_ten ⟨i.toNat, by omega⟩
      rw [show ((⟨i.toNat, by omega⟩ : Fin 1001).val : Int) = i by simp; omega] at this
      exact this h
    · cases e <;> simp at h
  · exact ⟨by simp [wordB, wordsL], by simp [wordB, wordsL]⟩
theorem read_line (d : S33) (h : Good d) (s : ByteArray) (hs : s.data.toList = LB d) (hz : s.size ≤ 4194304) : doc_read.f s = some (d.f0, d.f1, d.f2, d.f3, d.f4, true) := by
  have hgood := h
  obtain ⟨g1, g2, g3, g4, g5, g6, g7⟩ := good_ok h
  have hrt := h.r
  obtain ⟨k0, t, n, i, e⟩ := d
  simp only at g1 g2 g3 g4 g5 g6 g7
  obtain ⟨k, rfl⟩ := Int.eq_ofNat_of_zero_le (show 0 ≤ k0 by omega)
  unfold rightD at hrt
  unfold LB at hs
  simp only [Int.toNat_natCast] at hrt hs
  have fin : ∀ (t' : ByteArray) (n' i' : Int) (e' : Bool), t' = t → n' = n → i' = i → e' = e → t.size ≤ 65535 → readEnd s k t' n' i' e' = some ((k : Int), t, n, i, e, true) := fun t' n' i' e' h1 h2 h3 h4 h5 => by
    subst h1 h2 h3 h4
    unfold readEnd
    rw [if_pos (by omega), hrt, hs]; simp
  have z0 : (⟨#[]⟩ : ByteArray).size = 0 := rfl
  unfold doc_read.f
  rw [if_pos (by omega)]
  rcases (by omega : k = 1 ∨ k = 2 ∨ k = 3 ∨ k = 4 ∨ k = 5 ∨ k = 6 ∨ k = 7) with rfl | rfl | rfl | rfl | rfl | rfl | rfl
  · obtain ⟨a, b, rfl, rfl, rfl⟩ := g4 rfl
    have hk : readK s.data.toList = 1 := by rw [hs]; simp [lineB, readK, Lib.hasPrefix, wordB, wordsL, List.isPrefixOf]
    have hc : (cutS s 5 s.size).data.toList = escL t.data.toList := by
      rw [cutL, List.take_of_length_le (by rw [List.length_drop, size_len]; exact Nat.le_refl _), hs]; simp [lineB, wordB, wordsL]
    have hle : (cutS s 5 s.size).size ≤ s.size := cut_le _ _ _
    have ht : t.size ≤ (cutS s 5 s.size).size := by
      have := escL_ge t.data.toList
      rw [← hc, size_len, size_len] at this; exact this
    rw [hk]
    show (doc_unescaped.f (4 * s.size + 50) (cutS s 5 s.size)).bind _ = _
    rw [un_esc t _ (by omega) hc _ (by omega), Option.bind_some]
    exact fin t 0 0 false rfl rfl rfl rfl b
  · obtain ⟨rfl, rfl, rfl, rfl⟩ := g7 (by decide) (by decide) (by decide)
    have hk : readK s.data.toList = 2 := by rw [hs]; simp [lineB, readK, Lib.hasPrefix, wordB, wordsL, List.isPrefixOf]
    rw [hk]
    exact fin _ 0 0 false rfl rfl rfl rfl (by omega)
  · obtain ⟨a, b, rfl, rfl, rfl⟩ := g5 rfl
    have hk : readK s.data.toList = 3 := by rw [hs]; simp [lineB, readK, Lib.hasPrefix, wordB, wordsL, List.isPrefixOf]
    have hc : (cutS s 6 s.size).data.toList = Lib.itoa n := by
      rw [cutL, List.take_of_length_le (by rw [List.length_drop, size_len]; exact Nat.le_refl _), hs]; simp [lineB, wordB, wordsL]
    have ha : atoiV (Lib.itoa n) = n := by
      have := it_atoi ⟨n.toNat, by omega⟩
      rw [show ((⟨n.toNat, by omega⟩ : Fin 1001).val : Int) = n by simp; omega] at this
      exact this
    rw [hk]
    show readEnd s 3 ⟨#[]⟩ (atoiV (cutS s 6 s.size).data.toList) 0 false = _
    rw [hc, ha]
    exact fin _ n 0 false rfl rfl rfl rfl (by omega)
  · obtain ⟨rfl, rfl, rfl, rfl⟩ := g7 (by decide) (by decide) (by decide)
    have hk : readK s.data.toList = 4 := by rw [hs]; simp [lineB, readK, Lib.hasPrefix, wordB, wordsL, List.isPrefixOf]
    rw [hk]
    exact fin _ 0 0 false rfl rfl rfl rfl (by omega)
  · obtain ⟨rfl, rfl, rfl, rfl⟩ := g7 (by decide) (by decide) (by decide)
    have hk : readK s.data.toList = 5 := by rw [hs]; simp [lineB, readK, Lib.hasPrefix, wordB, wordsL, List.isPrefixOf]
    rw [hk]
    exact fin _ 0 0 false rfl rfl rfl rfl (by omega)
  · obtain ⟨a, b, rfl, rfl⟩ := g6 rfl
    have hk : readK s.data.toList = 6 := by rw [hs]; simp [lineB, readK, Lib.hasPrefix, wordB, wordsL, List.isPrefixOf]
    have hc : cutS s 6 s.size = ⟨(Lib.itoa i ++ (if e = true then [32, 101, 118, 101, 110] else [])).toArray⟩ := by
      apply ba_ext
      rw [cutL, List.take_of_length_le (by rw [List.length_drop, size_len]; exact Nat.le_refl _), hs]; simp [lineB, wordB, wordsL]
    have ha : atoiV (Lib.itoa i) = i := by
      have := it_atoi ⟨i.toNat, by omega⟩
      rw [show ((⟨i.toNat, by omega⟩ : Fin 1001).val : Int) = i by simp; omega] at this
      exact this
    have hu : strings_CutSuffix.f ⟨(Lib.itoa i ++ (if e = true then [32, 101, 118, 101, 110] else [])).toArray⟩ evenW = some (⟨(Lib.itoa i).toArray⟩, e) := by
      have := it_suf ⟨i.toNat, by omega⟩ e
      rw [show ((⟨i.toNat, by omega⟩ : Fin 1001).val : Int) = i by simp; omega] at this
      exact this
    rw [hk]
    show (strings_CutSuffix.f (cutS s 6 s.size) evenW).bind (fun r => readEnd s 6 ⟨#[]⟩ 0 (atoiV r.1.data.toList) r.2) = _
    rw [hc, hu, Option.bind_some]
    show readEnd s 6 ⟨#[]⟩ 0 (atoiV (Lib.itoa i)) e = _
    rw [ha]
    exact fin _ 0 i e rfl rfl rfl rfl (by omega)
  · obtain ⟨rfl, rfl, rfl, rfl⟩ := g7 (by decide) (by decide) (by decide)
    have hk : readK s.data.toList = 7 := by rw [hs]; simp [lineB, readK, Lib.hasPrefix, wordB, wordsL, List.isPrefixOf]
    rw [hk]
    exact fin _ 0 0 false rfl rfl rfl rfl (by omega)
end Go.Proofs.YtbdilejhbeffjaaDoor
