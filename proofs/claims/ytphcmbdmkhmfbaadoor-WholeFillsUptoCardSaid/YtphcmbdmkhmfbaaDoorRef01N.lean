/- What the reference's Next (package colophonref01) tells: the model's own decoding of a character. Condition: the place lies within the text. -/
import Derived.Test.YtphcmbdmkhmfbaaDoorRef01
namespace Go.Proofs.YtphcmbdmkhmfbaaDoor
open Go.RowKit Go.Lib

theorem r1_Next_bad (s : ByteArray) (a : Nat) (w : World) (ha : a < s.size) (hs : s.size < 4611686018427387904) (hg : ¬ goodAt s a) :
    Calls Tryd.prog 95 #[.string s, .int .i64 a] w fun e w' => e = .returned (.tuple #[.int .i64 65533, .int .i64 1, .bool false]) ∧ w = w' := by
  have hb0 := byteAt_lt s a
  have h := Lib.hid (fun x => hg ((goodAt_iff s a ha).2 x))
  clear hg
  have hl := long_cases (byteAt s a)
  have hl4 : longN (byteAt s a) ≤ 4 := by omega
  clear hl
  by_cases h0 : longN (byteAt s a) = 0
  · have hx := Lib.hid h0
    clear h0
    go_enter Tryd.func95, Tryd.ntmps95
    go_wp2_with (go_at_call 99; refine (r1_Long _ _).mono ?_; rintro e w' ⟨rfl, rfl⟩; rw [hx.out])
    go_ret3
    exact ⟨rfl, rfl⟩
  by_cases h1 : a + longN (byteAt s a) ≤ s.size
  · have hf : fitsB s a (longN (byteAt s a)) = false := by
      cases e : fitsB s a (longN (byteAt s a)) with
      | false => rfl
      | true => exact absurd ⟨h0, h1, e⟩ h.out
    have h2 : ((longN (byteAt s a) : Int) == 0) = false := by simpa using h0
    go_enter Tryd.func95, Tryd.ntmps95
    go_wp2_with (first | (go_at_call 99; refine (r1_Long _ _).mono ?_; rintro e w' ⟨rfl, rfl⟩) | (go_at_call 100; refine (r1_fits _ _ _ _ ha hs hl4).mono ?_; rintro e w' ⟨rfl, rfl⟩))
    go_ret3
    exact ⟨rfl, rfl⟩
  · have h2 : ((longN (byteAt s a) : Int) == 0) = false := by simpa using h0
    go_enter Tryd.func95, Tryd.ntmps95
    go_wp2_with (go_at_call 99; refine (r1_Long _ _).mono ?_; rintro e w' ⟨rfl, rfl⟩)
    go_ret3
    exact ⟨rfl, rfl⟩

theorem r1_Next_good (s : ByteArray) (a : Nat) (w : World) (ha : a < s.size) (hs : s.size < 4611686018427387904) (hg : goodAt s a) :
    Calls Tryd.prog 95 #[.string s, .int .i64 a] w fun e w' => e = .returned (.tuple #[.int .i64 (Utf8.decode s a).1, .int .i64 (Utf8.decode s a).2, .bool true]) ∧ w = w' := by
  have hb0 := byteAt_lt s a
  have hd := Lib.hid (dec_good s a hg).1
  obtain ⟨h0, h1, hf⟩ := (goodAt_iff s a ha).1 hg
  clear hg
  have hl := long_cases (byteAt s a)
  have hl4 : longN (byteAt s a) ≤ 4 := by omega
  by_cases e1 : longN (byteAt s a) = 1
  · have hx := Lib.hid e1
    have fin : Hid (Utf8.decode s a = (byteAt s a, 1)) := by have := hd.out; rw [e1, if_pos rfl] at this; exact Lib.hid this
    rw [e1] at hf h1
    clear h0 e1 hl hl4
    go_enter Tryd.func95, Tryd.ntmps95
    go_wp2_with (first | (go_at_call 99; refine (r1_Long _ _).mono ?_; rintro e w' ⟨rfl, rfl⟩; rw [hx.out]) | (go_at_call 100; refine (r1_fits s a 1 _ ha hs (by omega)).mono ?_; rintro e w' ⟨rfl, rfl⟩))
    go_ret3
    exact ⟨by rw [fin.out]; rfl, rfl⟩
  · have fin : Hid (Utf8.decode s a = (ptF s a (longN (byteAt s a)) (longN (byteAt s a)), longN (byteAt s a))) := by have := hd.out; rw [if_neg e1] at this; exact Lib.hid this
    obtain ⟨n, hn⟩ : ∃ n, longN (byteAt s a) = n := ⟨_, rfl⟩
    have hnx := Lib.hid hn
    have H : ∀ m : Nat, (∀ W : World, Calls Tryd.prog 99 #[.int .i64 (byteAt s a)] W fun e w' => e = .returned (.int .i64 n) ∧ W = w') := fun _ W => by rw [← hnx.out]; exact r1_Long _ _
    rw [hn] at fin hf h1 h0 e1 hl4
    clear hn hl hd
    have HL := Lib.hid (H 0)
    clear H
    have HP : ∀ k, 1 ≤ k → ptF s a n (k + 1) = 64 * ptF s a n k + byteAt s (a + k) % 64 := fun k hk => by
      obtain ⟨m, rfl⟩ : ∃ m, k = m + 1 := ⟨k - 1, by omega⟩
      rfl
    have HP := Lib.hid HP
    have hn3 : n = 2 ∨ n = 3 ∨ n = 4 := by omega
    have h10 : ptF s a n 1 = if n = 4 then byteAt s a % 8 else if n = 3 then byteAt s a % 16 else byteAt s a % 32 := rfl
    clear h0 e1 hl4
    have hsz : 0 < s.size - a := by omega
    obtain rfl | rfl | rfl := hn3
    · simp at h10
      have h10 := Lib.hid h10
      go_enter Tryd.func95, Tryd.ntmps95
      go_wp2_with (first | (go_at_call 99; refine (HL.out _).mono ?_; rintro e w' ⟨rfl, rfl⟩) | (go_at_call 100; refine (r1_fits s a 2 _ ha hs (by omega)).mono ?_; rintro e w' ⟨rfl, rfl⟩))
      go_loop [9, 10] (fun p i => ∃ k : Nat, 1 ≤ k ∧ k ≤ 2 ∧ i = .int .i64 k ∧ p = .int .i64 (ptF s a 2 k)) (fun _ i => 2 - (intOf i).toNat)
      case atStart => exact ⟨1, by omega, by omega, rfl, by rw [h10.out]; go_num⟩
      case round =>
        obtain ⟨k, hk1, hk2, rfl, rfl⟩ := hrel
        have hb1 := byteAt_lt s (a + k)
        have hp1 := ptF_lt s a 2 k (by omega)
        by_cases hk : k < 2
        · have hks : a + k < s.size := by omega
          go_wp2
          go_round
          case rel => exact ⟨k + 1, by omega, by omega, by go_num, by rw [HP.out k hk1]; go_num⟩
          case measure => simp [intOf]; omega
        · obtain rfl : k = 2 := by omega
          go_wp2
          go_ret3
          exact ⟨by rw [fin.out]; rfl, rfl⟩
    · simp at h10
      have h10 := Lib.hid h10
      go_enter Tryd.func95, Tryd.ntmps95
      go_wp2_with (first | (go_at_call 99; refine (HL.out _).mono ?_; rintro e w' ⟨rfl, rfl⟩) | (go_at_call 100; refine (r1_fits s a 3 _ ha hs (by omega)).mono ?_; rintro e w' ⟨rfl, rfl⟩))
      go_loop [9, 10] (fun p i => ∃ k : Nat, 1 ≤ k ∧ k ≤ 3 ∧ i = .int .i64 k ∧ p = .int .i64 (ptF s a 3 k)) (fun _ i => 3 - (intOf i).toNat)
      case atStart => exact ⟨1, by omega, by omega, rfl, by rw [h10.out]; go_num⟩
      case round =>
        obtain ⟨k, hk1, hk2, rfl, rfl⟩ := hrel
        have hb1 := byteAt_lt s (a + k)
        have hp1 := ptF_lt s a 3 k (by omega)
        by_cases hk : k < 3
        · have hks : a + k < s.size := by omega
          go_wp2
          go_round
          case rel => exact ⟨k + 1, by omega, by omega, by go_num, by rw [HP.out k hk1]; go_num⟩
          case measure => simp [intOf]; omega
        · obtain rfl : k = 3 := by omega
          go_wp2
          go_ret3
          exact ⟨by rw [fin.out]; rfl, rfl⟩
    · simp at h10
      have h10 := Lib.hid h10
      go_enter Tryd.func95, Tryd.ntmps95
      go_wp2_with (first | (go_at_call 99; refine (HL.out _).mono ?_; rintro e w' ⟨rfl, rfl⟩) | (go_at_call 100; refine (r1_fits s a 4 _ ha hs (by omega)).mono ?_; rintro e w' ⟨rfl, rfl⟩))
      go_loop [9, 10] (fun p i => ∃ k : Nat, 1 ≤ k ∧ k ≤ 4 ∧ i = .int .i64 k ∧ p = .int .i64 (ptF s a 4 k)) (fun _ i => 4 - (intOf i).toNat)
      case atStart => exact ⟨1, by omega, by omega, rfl, by rw [h10.out]; go_num⟩
      case round =>
        obtain ⟨k, hk1, hk2, rfl, rfl⟩ := hrel
        have hb1 := byteAt_lt s (a + k)
        have hp1 := ptF_lt s a 4 k (by omega)
        by_cases hk : k < 4
        · have hks : a + k < s.size := by omega
          go_wp2
          go_round
          case rel => exact ⟨k + 1, by omega, by omega, by go_num, by rw [HP.out k hk1]; go_num⟩
          case measure => simp [intOf]; omega
        · obtain rfl : k = 4 := by omega
          go_wp2
          go_ret3
          exact ⟨by rw [fin.out]; rfl, rfl⟩

/-- What is told of the character at a place. -/
def nextV (s : ByteArray) (a : Nat) : Value := .tuple #[.int .i64 (Utf8.decode s a).1, .int .i64 (Utf8.decode s a).2, .bool (okC (Utf8.decode s a))]
theorem r1_Next (s : ByteArray) (a : Nat) (w : World) (ha : a < s.size) (hs : s.size < 4611686018427387904) :
    Calls Tryd.prog 95 #[.string s, .int .i64 a] w fun e w' => e = .returned (nextV s a) ∧ w = w' := by
  by_cases hg : goodAt s a
  · refine (r1_Next_good s a w ha hs hg).mono ?_
    rintro e w' ⟨rfl, rfl⟩
    exact ⟨by unfold nextV; rw [(dec_good s a hg).2], rfl⟩
  · refine (r1_Next_bad s a w ha hs hg).mono ?_
    rintro e w' ⟨rfl, rfl⟩
    exact ⟨by unfold nextV; rw [dec_bad s a hg]; rfl, rfl⟩

end Go.Proofs.YtphcmbdmkhmfbaaDoor
