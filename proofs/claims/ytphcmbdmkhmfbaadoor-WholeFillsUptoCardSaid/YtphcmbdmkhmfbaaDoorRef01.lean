/- What the reference's functions of package colophonref01 compute, by the model's own decoding of characters. Conditions: places within the text. -/
import Derived.Test.YtphcmbdmkhmfbaaDoorProg
import Derived.Test.YtphcmbdmkhmfbaaDoorDec
import Derived.WalkKit
import Derived.OwnWalk
import Derived.Below
import Derived.Lib.Hide
import Derived.Outline
import Derived.LoopTactic
namespace Go.Proofs.YtphcmbdmkhmfbaaDoor
open Go.RowKit Go.Lib


theorem r1_second (f b : Int) (w : World) :
    Calls Tryd.prog 102 #[.int .i64 f, .int .i64 b] w fun e w' => e = .returned (.bool (secB f b)) ∧ w = w' := by
  by_cases h1 : f = 224
  · subst h1
    go_enter Tryd.func102, Tryd.ntmps102
    go_wp2
    all_goals (go_ret; exact ⟨by simp [secB, *] <;> omega, rfl⟩)
  by_cases h2 : f = 237
  · subst h2
    go_enter Tryd.func102, Tryd.ntmps102
    go_wp2
    all_goals (go_ret; exact ⟨by simp [secB, *] <;> omega, rfl⟩)
  by_cases h3 : f = 240
  · subst h3
    go_enter Tryd.func102, Tryd.ntmps102
    go_wp2
    all_goals (go_ret; exact ⟨by simp [secB, *] <;> omega, rfl⟩)
  by_cases h4 : f = 244
  · subst h4
    go_enter Tryd.func102, Tryd.ntmps102
    go_wp2
    all_goals (go_ret; exact ⟨by simp [secB, *] <;> omega, rfl⟩)
  go_enter Tryd.func102, Tryd.ntmps102
  go_wp2
  all_goals (go_ret; exact ⟨by simp [secB, *] <;> omega, rfl⟩)


theorem r1_Long (b : Nat) (w : World) :
    Calls Tryd.prog 99 #[.int .i64 b] w fun e w' => e = .returned (.int .i64 (longN b)) ∧ w = w' := by
  have fin : ∀ n, longN b = n → Hid (longN b = n) := fun _ h => h
  by_cases h1 : b ≤ 127
  · have H := fin 1 (by unfold longN; rw [if_pos h1])
    go_enter Tryd.func99, Tryd.ntmps99
    go_wp2
    go_ret
    exact ⟨by rw [H.out]; rfl, rfl⟩
  by_cases h2 : 194 ≤ b ∧ b ≤ 223
  · have H := fin 2 (by unfold longN; rw [if_neg h1, if_pos h2])
    obtain ⟨h2, h3⟩ := h2
    go_enter Tryd.func99, Tryd.ntmps99
    go_wp2
    go_ret
    exact ⟨by rw [H.out]; rfl, rfl⟩
  by_cases h3 : 224 ≤ b ∧ b ≤ 239
  · have H := fin 3 (by unfold longN; rw [if_neg h1, if_neg h2, if_pos h3])
    obtain ⟨h3, h4⟩ := h3
    have h5 : ¬ b ≤ 223 := by omega
    have h6 : 194 ≤ b := by omega
    clear h2
    go_enter Tryd.func99, Tryd.ntmps99
    go_wp2
    go_ret
    exact ⟨by rw [H.out]; rfl, rfl⟩
  by_cases h4 : 240 ≤ b ∧ b ≤ 244
  · have H := fin 4 (by unfold longN; rw [if_neg h1, if_neg h2, if_neg h3, if_pos h4])
    obtain ⟨h4, h7⟩ := h4
    have h5 : ¬ b ≤ 223 := by omega
    have h6 : 194 ≤ b := by omega
    have h8 : 224 ≤ b := by omega
    have h9 : ¬ b ≤ 239 := by omega
    clear h2 h3
    go_enter Tryd.func99, Tryd.ntmps99
    go_wp2
    go_ret
    exact ⟨by rw [H.out]; rfl, rfl⟩
  have H := fin 0 (by unfold longN; rw [if_neg h1, if_neg h2, if_neg h3, if_neg h4])
  by_cases h5 : b < 194
  · have h6 : ¬ 194 ≤ b := by omega
    have h7 : ¬ 224 ≤ b := by omega
    have h8 : ¬ 240 ≤ b := by omega
    clear h2 h3 h4
    go_enter Tryd.func99, Tryd.ntmps99
    go_wp2
    go_ret
    exact ⟨by rw [H.out]; rfl, rfl⟩
  · have h6 : 194 ≤ b := by omega
    have h7 : 224 ≤ b := by omega
    have h8 : 240 ≤ b := by omega
    have h9 : ¬ b ≤ 223 := by omega
    have h10 : ¬ b ≤ 239 := by omega
    have h11 : ¬ b ≤ 244 := by omega
    clear h2 h3 h4
    go_enter Tryd.func99, Tryd.ntmps99
    go_wp2
    go_ret
    exact ⟨by rw [H.out]; rfl, rfl⟩


theorem r1_fits (s : ByteArray) (a n : Nat) (w : World) (ha : a < s.size) (hs : s.size < 4611686018427387904) (hn : n ≤ 4) :
    Calls Tryd.prog 100 #[.string s, .int .i64 a, .int .i64 n] w fun e w' => e = .returned (.bool (fitsB s a n)) ∧ w = w' := by
  have hb0 := byteAt_lt s a
  go_enter Tryd.func100, Tryd.ntmps100
  go_wp2
  go_loop [8] (fun i => ∃ k : Nat, 1 ≤ k ∧ k ≤ 5 ∧ i = .int .i64 k ∧ (∀ j, 1 ≤ j → j < k → a + j < s.size → okAt (byteAt s a) j (byteAt s (a + j)) = true)) (fun i => 5 - (intOf i).toNat)
  case atStart => exact ⟨1, by omega, by omega, rfl, fun j h1 h2 => by omega⟩
  case round =>
    obtain ⟨k, hk1, hk5, rfl, hall⟩ := hrel
    have H := Lib.hid hall
    clear hall
    by_cases hkn : k < n
    · by_cases hks : a + k < s.size
      · have hb1 := byteAt_lt s (a + k)
        cases hok : okAt (byteAt s a) k (byteAt s (a + k)) with
        | false =>
          have fin := Lib.hid (fits_bad hk1 hkn hks hok)
          have hok2 : ¬ (128 ≤ byteAt s (a + k) ∧ byteAt s (a + k) ≤ 191 ∧ (k = 1 → secB (byteAt s a) (byteAt s (a + k)) = true)) := by rw [← okAt_eq, hok]; simp
          have hh := Lib.hid hok2
          clear hok hok2
          go_wp2_with (go_at_call 102; refine (r1_second _ _ _).mono ?_; rintro e w' ⟨rfl, rfl⟩)
          all_goals first
            | (go_ret; exact ⟨by rw [fin.out]; rfl, rfl⟩)
            | (exfalso; exact hh.out ⟨by omega, by omega, fun e => by first | omega | assumption | (simp_all; done)⟩)
        | true =>
          obtain ⟨h1, h2, h3⟩ := (okAt_eq _ _ _).1 hok
          have h3' := Lib.hid h3
          have hok' := Lib.hid hok
          clear h3 hok
          by_cases hk : k = 1
          · subst hk
            have h4 := h3'.out rfl
            go_wp2_with (go_at_call 102; refine (r1_second _ _ _).mono ?_; rintro e w' ⟨rfl, rfl⟩)
            go_round
            case rel => exact ⟨2, by omega, by omega, by go_num, fun j j1 j2 j3 => by obtain rfl : j = 1 := (by omega); exact hok'.out⟩
            case measure => simp [intOf]
          · go_wp2
            go_round
            case rel => exact ⟨k + 1, by omega, by omega, by go_num, fun j j1 j2 j3 => by
              by_cases e : j = k
              · subst e; exact hok'.out
              · exact H.out j j1 (by omega) j3⟩
            case measure => simp [intOf]; omega
      · have fin : fitsB s a n = true := (fitsB_true s a n).2 fun j j1 j2 j3 => H.out j j1 (by omega) j3
        go_wp2
        go_ret
        exact ⟨rfl, rfl⟩
    · have fin : fitsB s a n = true := (fitsB_true s a n).2 fun j j1 j2 j3 => H.out j j1 (by omega) j3
      go_wp2
      go_ret
      exact ⟨rfl, rfl⟩

end Go.Proofs.YtphcmbdmkhmfbaaDoor
