/- char.Whole tells how many bytes can become no others. Conditions: the tables of package utf8 lie as laid; the text is shorter than 2^62 bytes. -/
import Derived.Test.YtgjlpkocieffeaaDoorFull
import Derived.Test.YtgjlpkocieffeaaDoorLines
namespace Go.Proofs.YtgjlpkocieffeaaDoor
open Go.RowKit Go.Lib
set_option linter.unusedVariables false
theorem whole_at (l : Bs) (n : Nat) (h1 : 1 ≤ n) (h3 : n ≤ 3) (hn : n ≤ l.length) (hp : ∀ m, 1 ≤ m → m < n → fullL (l.drop (l.length - m)) = true) (hf : fullL (l.drop (l.length - n)) = false) : wholeN l = l.length - n := by
  unfold wholeN
  rcases (by omega : n = 1 ∨ n = 2 ∨ n = 3) with rfl | rfl | rfl
  · rw [if_pos ⟨hn, hf⟩]
  · rw [if_neg (fun h => by rw [hp 1 (by omega) (by omega)] at h; exact absurd h.2 (by simp)), if_pos ⟨hn, hf⟩]
  · rw [if_neg (fun h => by rw [hp 1 (by omega) (by omega)] at h; exact absurd h.2 (by simp)), if_neg (fun h => by rw [hp 2 (by omega) (by omega)] at h; exact absurd h.2 (by simp)), if_pos ⟨hn, hf⟩]
theorem whole_all (l : Bs) (n : Nat) (hn : n = 4 ∨ n = l.length + 1) (hp : ∀ m, 1 ≤ m → m < n → fullL (l.drop (l.length - m)) = true) : wholeN l = l.length := by
  unfold wholeN
  rw [if_neg (fun h => by rw [hp 1 (by omega) (by omega)] at h; exact absurd h.2 (by simp)), if_neg (fun h => by rw [hp 2 (by omega) (by omega)] at h; exact absurd h.2 (by simp)), if_neg (fun h => by rw [hp 3 (by omega) (by omega)] at h; exact absurd h.2 (by simp))]
set_option maxHeartbeats 4000000 in
set_option maxRecDepth 100000 in
theorem char_Whole (s : ByteArray) (w : World) (hT : Utfs w) (hs : s.size < 4611686018427387904) :
    Calls Tryd.prog 4 #[.string s] w fun e w' => e = .returned (.int .i64 (wholeN s.data.toList)) ∧ Below w.heap.size w w' := by
  have hlen : s.data.toList.length = s.size := size_len s
  have hext : ∀ n, n ≤ s.size → (s.extract (s.size - n) s.size).data.toList = s.data.toList.drop (s.size - n) := fun n hn => by
    rw [extract_list, List.take_of_length_le (by rw [List.length_drop, hlen]; exact Nat.le_refl _)]
  have cF : ∀ n, n ≤ s.size → ∀ W, Below w.heap.size w W → Calls Tryd.prog 7 #[.string (s.extract (s.size - n) s.size)] W fun e w' => e = .returned (.bool (fullL (s.data.toList.drop (s.size - n)))) ∧ Below w.heap.size w w' := fun n hn W hW => by
    have := full_rune (s.extract (s.size - n) s.size) W (hT.below hW) (by simp; omega)
    rw [hext n hn] at this
    exact this.mono fun e w' ⟨h1, h2⟩ => ⟨h1, hW.trans (h2.mono hW.size)⟩
  have wA : ∀ n, 1 ≤ n → n ≤ 3 → n ≤ s.size → (∀ m, 1 ≤ m → m < n → fullL (s.data.toList.drop (s.size - m)) = true) → fullL (s.data.toList.drop (s.size - n)) = false → wholeN s.data.toList = s.size - n := fun n h1 h3 hn hp hf => by
    have := whole_at s.data.toList n h1 h3 (by rw [hlen]; exact hn) (by rw [hlen]; exact hp) (by rw [hlen]; exact hf)
    rwa [hlen] at this
  have wB : ∀ n, n = 4 ∨ n = s.size + 1 → (∀ m, 1 ≤ m → m < n → fullL (s.data.toList.drop (s.size - m)) = true) → wholeN s.data.toList = s.size := fun n hn hp => by
    have := whole_all s.data.toList n (by rw [hlen]; exact hn) (by rw [hlen]; exact hp)
    rwa [hlen] at this
  replace wA := Lib.hid wA; replace wB := Lib.hid wB; replace cF := Lib.hid cF
  clear hext hlen
  go_enter Tryd.func4, Tryd.ntmps4
  go_wp2_with fail
  go_loopw [3] (fun iv W => ∃ n : Nat, iv = .int .i64 n ∧ 1 ≤ n ∧ n ≤ 4 ∧ n ≤ s.size + 1 ∧ Hid (∀ m, 1 ≤ m → m < n → fullL (s.data.toList.drop (s.size - m)) = true) ∧ Below w.heap.size w W) (fun iv _ => 4 - (RowKit.intOf iv).toNat)
  case atStart => exact ⟨1, rfl, by omega, by omega, by omega, Lib.hid (fun m h1 h2 => by omega), Below.refl _ _⟩
  case round =>
    obtain ⟨n, rfl, h1, h4, hz, hp, hb⟩ := hrel
    by_cases c4 : n < 4
    · have c4I : (n : Int) < 4 := by omega
      by_cases cz : n ≤ s.size
      · have czI : (n : Int) ≤ (s.size : Int) := by omega
        have e1 : IntKind.i64.wrap ((s.size : Int) - (n : Int)) = ((s.size - n : Nat) : Int) := by rw [IntWalk.i64_in _ (by omega)]; omega
        have e2 : ((s.size - n : Nat) : Int) ≤ (s.size : Int) := by omega
        have e3 : (0 : Int) ≤ ((s.size - n : Nat) : Int) := by omega
        have cc := Lib.hid (cF.out n cz wr hb)
        obtain ⟨k, hk⟩ : ∃ k, s.size - n = k := ⟨_, rfl⟩
        have hf2 := wA.out n h1 (by omega) cz hp.out
        cases hf : fullL (s.data.toList.drop (s.size - n)) with
        | false =>
          replace hf2 := Lib.hid (hf2 hf)
          rw [hf, hk] at cc
          go_wp2_with fail
          refine cc.out.mono ?_
          rintro e w1 ⟨rfl, b1⟩
          go_wp2_with fail
          go_ret
          exact ⟨by rw [hf2.out, hk]; rfl, b1⟩
        | true =>
          rw [hf, hk] at cc
          have hp2 : Hid (∀ m, 1 ≤ m → m < n + 1 → fullL (s.data.toList.drop (s.size - m)) = true) := Lib.hid fun m h1 h2 => by
            rcases (by omega : m = n ∨ m < n) with rfl | h3
            · exact hf
            · exact hp.out m h1 h3
          clear hf2
          go_wp2_with fail
          refine cc.out.mono ?_
          rintro e w1 ⟨rfl, b1⟩
          go_wp2_with fail
          go_roundw
          case rel => exact ⟨n + 1, by go_num, by omega, by omega, by omega, hp2, b1⟩
          case measure => simp [RowKit.intOf]; omega
      · have czI : ¬ ((n : Int) ≤ (s.size : Int)) := by omega
        have hW := Lib.hid (wB.out n (.inr (by omega)) hp.out)
        go_wp2_with fail
        go_ret
        exact ⟨by rw [hW.out]; rfl, hb⟩
    · have c4I : ¬ ((n : Int) < 4) := by omega
      have hW := Lib.hid (wB.out n (.inl (by omega)) hp.out)
      go_wp2_with fail
      go_ret
      exact ⟨by rw [hW.out]; rfl, hb⟩
end Go.Proofs.YtgjlpkocieffeaaDoor
