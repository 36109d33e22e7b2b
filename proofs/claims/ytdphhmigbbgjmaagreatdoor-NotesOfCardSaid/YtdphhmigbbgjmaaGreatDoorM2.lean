/- What the functions of package char compute: contracts of char.Count. Conditions: a text shorter than 2^62 bytes. What the reference's functions of package colophonref01 compute, by the model's own decoding of characters. Conditions: places within the text. What the reference's Next (package colophonref01) tells: the model's own decoding of a character. Condition: the place lies within the text. The reference's Places and Count (package colophonref01): where characters begin, and how many there are. Condition: the text has at most 2^44 bytes. The reference's Advance (package colophonref03) tells the place behind a text. Conditions: the text has at most 2^44 bytes; line and column are numbers of 64 bits. char.Next tells the model's own decoding of a character. Condition: the place lies within the text. place.Advance tells the place behind a text. Condition: the text is shorter than 2^62 bytes. The tables of package class; class.Letter and class.Part over them. -/
import Derived.Test.YtdphhmigbbgjmaaGreatDoorProg
import Derived.Test.YtdphhmigbbgjmaaGreatDoorM1
import Derived.WalkKit
import Derived.Laws.RangeString
import Derived.Laws.RangeAny
import Derived.Deep.LoopGhost
import Derived.OwnWalk
import Derived.Below
import Derived.Lib.Hide
import Derived.Outline
import Derived.LoopTactic
import Derived.Test.YtdphhmigbbgjmaaGreatDoorShelf
import Derived.Deep.MidRow
import Derived.Deep.QuietTactic
import Derived.BigQuiet
section
namespace Go.Proofs.YtdphhmigbbgjmaaGreatDoor
open Go.RowKit Go.Lib
attribute [local go_sem] byteAt_get wrap64_byteAt

set_option maxHeartbeats 400000 in
theorem char_Count (s : ByteArray) (w : World) (hs : s.size < 4611686018427387904) :
    Calls Tryz.prog 61 #[.string s] w fun e w' => e = .returned (.int .i64 (cnt s.data.toList)) ∧ Below w.heap.size w w' := by
  go_enter Tryz.func61, Tryz.ntmps61
  go_wp2
  go_loopw [3] (fun n w' => ∃ (pos acc : Nat), w' = w.iter s pos ∧ n = .int .i64 acc ∧ acc + cnt (s.data.toList.drop pos) = cnt s.data.toList ∧ acc ≤ pos ∧ pos ≤ s.size) (fun _ w' => s.size - w'.iterPos w.heap.size)
  case atStart => exact ⟨0, 0, rfl, rfl, by simp, Nat.le_refl _, Nat.zero_le _⟩
  case round =>
    obtain ⟨pos, acc, rfl, rfl, hc, ha, hle⟩ := hrel
    by_cases hp : pos < s.size
    · have hnx : ∀ ty, (Instr.next (.pointer (some ⟨w.heap.size, 0, none⟩)) true ty).run Tryz.prog (w.iter s pos) = _ := fun ty => run_next_any w s pos ty hp
      have hwd := dec_pos s pos
      have hle2 := dec_le s pos hp
      go_wp2
      go_roundw
      case rel =>
        refine ⟨pos + (Utf8.decode s pos).2, acc + 1, rfl, by go_num, ?_, by omega, hle2⟩
        rw [← hc, cnt_at s pos hp]; omega
      case measure =>
        simp
        omega
    · have hnx : ∀ ty, (Instr.next (.pointer (some ⟨w.heap.size, 0, none⟩)) true ty).run Tryz.prog (w.iter s pos) = _ := fun ty => run_next_end w s pos ty hp
      go_wp2
      go_ret
      rw [cnt_end s pos (by omega), Nat.add_zero] at hc
      subst hc
      exact ⟨rfl, (Below.refl _ _).alloc (Nat.le_refl _) _⟩
end Go.Proofs.YtdphhmigbbgjmaaGreatDoor
end
section
namespace Go.Proofs.YtdphhmigbbgjmaaGreatDoor
open Go.RowKit Go.Lib
attribute [local go_sem] byteAt_get wrap64_byteAt


theorem r1_second (f b : Int) (w : World) :
    Calls Tryz.prog 93 #[.int .i64 f, .int .i64 b] w fun e w' => e = .returned (.bool (secB f b)) ∧ w = w' := by
  by_cases h1 : f = 224
  · subst h1
    go_enter Tryz.func93, Tryz.ntmps93
    go_wp2
    all_goals (go_ret; exact ⟨by simp [secB, *] <;> omega, rfl⟩)
  by_cases h2 : f = 237
  · subst h2
    go_enter Tryz.func93, Tryz.ntmps93
    go_wp2
    all_goals (go_ret; exact ⟨by simp [secB, *] <;> omega, rfl⟩)
  by_cases h3 : f = 240
  · subst h3
    go_enter Tryz.func93, Tryz.ntmps93
    go_wp2
    all_goals (go_ret; exact ⟨by simp [secB, *] <;> omega, rfl⟩)
  by_cases h4 : f = 244
  · subst h4
    go_enter Tryz.func93, Tryz.ntmps93
    go_wp2
    all_goals (go_ret; exact ⟨by simp [secB, *] <;> omega, rfl⟩)
  go_enter Tryz.func93, Tryz.ntmps93
  go_wp2
  all_goals (go_ret; exact ⟨by simp [secB, *] <;> omega, rfl⟩)


theorem r1_Long (b : Nat) (w : World) :
    Calls Tryz.prog 75 #[.int .i64 b] w fun e w' => e = .returned (.int .i64 (longN b)) ∧ w = w' := by
  have fin : ∀ n, longN b = n → Hid (longN b = n) := fun _ h => h
  by_cases h1 : b ≤ 127
  · have H := fin 1 (by unfold longN; rw [if_pos h1])
    go_enter Tryz.func75, Tryz.ntmps75
    go_wp2
    go_ret
    exact ⟨by rw [H.out]; rfl, rfl⟩
  by_cases h2 : 194 ≤ b ∧ b ≤ 223
  · have H := fin 2 (by unfold longN; rw [if_neg h1, if_pos h2])
    obtain ⟨h2, h3⟩ := h2
    go_enter Tryz.func75, Tryz.ntmps75
    go_wp2
    go_ret
    exact ⟨by rw [H.out]; rfl, rfl⟩
  by_cases h3 : 224 ≤ b ∧ b ≤ 239
  · have H := fin 3 (by unfold longN; rw [if_neg h1, if_neg h2, if_pos h3])
    obtain ⟨h3, h4⟩ := h3
    have h5 : ¬ b ≤ 223 := by omega
    have h6 : 194 ≤ b := by omega
    clear h2
    go_enter Tryz.func75, Tryz.ntmps75
    go_wp2
    go_ret
    exact ⟨by rw [H.out]; rfl, rfl⟩
  by_cases h4 : 240 ≤ b ∧ b ≤ 244
  · have H := fin 4 (by unfold longN; rw [if_neg h1, if_neg h2, if_neg h3, if_pos h4])
    obtain ⟨h4, h7⟩ := h4
    have h5 : ¬ b ≤ 223 := by omega
    have h6 : 194 ≤ b := by omega
    have h8 : 224 ≤ b := by omega
    have h9 : ¬ b ≤ 239 := by omega
    clear h2 h3
    go_enter Tryz.func75, Tryz.ntmps75
    go_wp2
    go_ret
    exact ⟨by rw [H.out]; rfl, rfl⟩
  have H := fin 0 (by unfold longN; rw [if_neg h1, if_neg h2, if_neg h3, if_neg h4])
  by_cases h5 : b < 194
  · have h6 : ¬ 194 ≤ b := by omega
    have h7 : ¬ 224 ≤ b := by omega
    have h8 : ¬ 240 ≤ b := by omega
    clear h2 h3 h4
    go_enter Tryz.func75, Tryz.ntmps75
    go_wp2
    go_ret
    exact ⟨by rw [H.out]; rfl, rfl⟩
  · have h6 : 194 ≤ b := by omega
    have h7 : 224 ≤ b := by omega
    have h8 : 240 ≤ b := by omega
    have h9 : ¬ b ≤ 223 := by omega
    have h10 : ¬ b ≤ 239 := by omega
    have h11 : ¬ b ≤ 244 := by omega
    clear h2 h3 h4
    go_enter Tryz.func75, Tryz.ntmps75
    go_wp2
    go_ret
    exact ⟨by rw [H.out]; rfl, rfl⟩


theorem r1_fits (s : ByteArray) (a n : Nat) (w : World) (ha : a < s.size) (hs : s.size < 4611686018427387904) (hn : n ≤ 4) :
    Calls Tryz.prog 76 #[.string s, .int .i64 a, .int .i64 n] w fun e w' => e = .returned (.bool (fitsB s a n)) ∧ w = w' := by
  have hb0 := byteAt_lt s a
  go_enter Tryz.func76, Tryz.ntmps76
  go_wp2
  go_loop [8] (fun i => ∃ k : Nat, 1 ≤ k ∧ k ≤ 5 ∧ i = .int .i64 k ∧ (∀ j, 1 ≤ j → j < k → a + j < s.size → okAt (byteAt s a) j (byteAt s (a + j)) = true)) (fun i => 5 - (RowKit.intOf i).toNat)
  case atStart => exact ⟨1, by omega, by omega, rfl, fun j h1 h2 => by omega⟩
  case round =>
    obtain ⟨k, hk1, hk5, rfl, hall⟩ := hrel
    have H := Lib.hid hall
    clear hall
    by_cases hkn : k < n
    · by_cases hks : a + k < s.size
      · have hb1 := byteAt_lt s (a + k)
        cases hok : okAt (byteAt s a) k (byteAt s (a + k)) with
        | false =>
          have fin := Lib.hid (fits_bad hk1 hkn hks hok)
          have hok2 : ¬ (128 ≤ byteAt s (a + k) ∧ byteAt s (a + k) ≤ 191 ∧ (k = 1 → secB (byteAt s a) (byteAt s (a + k)) = true)) := by rw [← okAt_eq, hok]; simp
          have hh := Lib.hid hok2
          clear hok hok2
          go_wp2_with (go_at_call 93; refine (r1_second _ _ _).mono ?_; rintro e w' ⟨rfl, rfl⟩)
          all_goals first
            | (go_ret; exact ⟨by rw [fin.out]; rfl, rfl⟩)
            | (exfalso; exact hh.out ⟨by omega, by omega, fun e => by first | omega | assumption | (simp_all; done)⟩)
        | true =>
          obtain ⟨h1, h2, h3⟩ := (okAt_eq _ _ _).1 hok
          have h3' := Lib.hid h3
          have hok' := Lib.hid hok
          clear h3 hok
          by_cases hk : k = 1
          · subst hk
            have h4 := h3'.out rfl
            go_wp2_with (go_at_call 93; refine (r1_second _ _ _).mono ?_; rintro e w' ⟨rfl, rfl⟩)
            go_round
            case rel => exact ⟨2, by omega, by omega, by go_num, fun j j1 j2 j3 => by obtain rfl : j = 1 := (by omega); exact hok'.out⟩
            case measure => simp [RowKit.intOf]
          · go_wp2
            go_round
            case rel => exact ⟨k + 1, by omega, by omega, by go_num, fun j j1 j2 j3 => by
              by_cases e : j = k
              · subst e; exact hok'.out
              · exact H.out j j1 (by omega) j3⟩
            case measure => simp [RowKit.intOf]; omega
      · have fin : fitsB s a n = true := (fitsB_true s a n).2 fun j j1 j2 j3 => H.out j j1 (by omega) j3
        go_wp2
        go_ret
        exact ⟨rfl, rfl⟩
    · have fin : fitsB s a n = true := (fitsB_true s a n).2 fun j j1 j2 j3 => H.out j j1 (by omega) j3
      go_wp2
      go_ret
      exact ⟨rfl, rfl⟩

end Go.Proofs.YtdphhmigbbgjmaaGreatDoor
end
section
namespace Go.Proofs.YtdphhmigbbgjmaaGreatDoor
open Go.RowKit Go.Lib
attribute [local go_sem] byteAt_get wrap64_byteAt

theorem r1_Next_bad (s : ByteArray) (a : Nat) (w : World) (ha : a < s.size) (hs : s.size < 4611686018427387904) (hg : ¬ goodAt s a) :
    Calls Tryz.prog 45 #[.string s, .int .i64 a] w fun e w' => e = .returned (.tuple #[.int .i64 65533, .int .i64 1, .bool false]) ∧ w = w' := by
  have hb0 := byteAt_lt s a
  have h := Lib.hid (fun x => hg ((goodAt_iff s a ha).2 x))
  clear hg
  have hl := long_cases (byteAt s a)
  have hl4 : longN (byteAt s a) ≤ 4 := by omega
  clear hl
  by_cases h0 : longN (byteAt s a) = 0
  · have hx := Lib.hid h0
    clear h0
    go_enter Tryz.func45, Tryz.ntmps45
    go_wp2_with (go_at_call 75; refine (r1_Long _ _).mono ?_; rintro e w' ⟨rfl, rfl⟩; rw [hx.out])
    go_ret3
    exact ⟨rfl, rfl⟩
  by_cases h1 : a + longN (byteAt s a) ≤ s.size
  · have hf : fitsB s a (longN (byteAt s a)) = false := by
      cases e : fitsB s a (longN (byteAt s a)) with
      | false => rfl
      | true => exact absurd ⟨h0, h1, e⟩ h.out
    have h2 : ((longN (byteAt s a) : Int) == 0) = false := by simpa using h0
    go_enter Tryz.func45, Tryz.ntmps45
    go_wp2_with (first | (go_at_call 75; refine (r1_Long _ _).mono ?_; rintro e w' ⟨rfl, rfl⟩) | (go_at_call 76; refine (r1_fits _ _ _ _ ha hs hl4).mono ?_; rintro e w' ⟨rfl, rfl⟩))
    go_ret3
    exact ⟨rfl, rfl⟩
  · have h2 : ((longN (byteAt s a) : Int) == 0) = false := by simpa using h0
    go_enter Tryz.func45, Tryz.ntmps45
    go_wp2_with (go_at_call 75; refine (r1_Long _ _).mono ?_; rintro e w' ⟨rfl, rfl⟩)
    go_ret3
    exact ⟨rfl, rfl⟩

theorem r1_Next_good (s : ByteArray) (a : Nat) (w : World) (ha : a < s.size) (hs : s.size < 4611686018427387904) (hg : goodAt s a) :
    Calls Tryz.prog 45 #[.string s, .int .i64 a] w fun e w' => e = .returned (.tuple #[.int .i64 (Utf8.decode s a).1, .int .i64 (Utf8.decode s a).2, .bool true]) ∧ w = w' := by
  have hb0 := byteAt_lt s a
  have hd := Lib.hid (dec_good s a hg).1
  obtain ⟨h0, h1, hf⟩ := (goodAt_iff s a ha).1 hg
  clear hg
  have hl := long_cases (byteAt s a)
  have hl4 : longN (byteAt s a) ≤ 4 := by omega
  by_cases e1 : longN (byteAt s a) = 1
  · have hx := Lib.hid e1
    have fin : Hid (Utf8.decode s a = (byteAt s a, 1)) := by have := hd.out; rw [e1, if_pos rfl] at this; exact Lib.hid this
    rw [e1] at hf h1
    clear h0 e1 hl hl4
    go_enter Tryz.func45, Tryz.ntmps45
    go_wp2_with (first | (go_at_call 75; refine (r1_Long _ _).mono ?_; rintro e w' ⟨rfl, rfl⟩; rw [hx.out]) | (go_at_call 76; refine (r1_fits s a 1 _ ha hs (by omega)).mono ?_; rintro e w' ⟨rfl, rfl⟩))
    go_ret3
    exact ⟨by rw [fin.out]; rfl, rfl⟩
  · have fin : Hid (Utf8.decode s a = (ptF s a (longN (byteAt s a)) (longN (byteAt s a)), longN (byteAt s a))) := by have := hd.out; rw [if_neg e1] at this; exact Lib.hid this
    obtain ⟨n, hn⟩ : ∃ n, longN (byteAt s a) = n := ⟨_, rfl⟩
    have hnx := Lib.hid hn
    have H : ∀ m : Nat, (∀ W : World, Calls Tryz.prog 75 #[.int .i64 (byteAt s a)] W fun e w' => e = .returned (.int .i64 n) ∧ W = w') := fun _ W => by rw [← hnx.out]; exact r1_Long _ _
    rw [hn] at fin hf h1 h0 e1 hl4
    clear hn hl hd
    have HL := Lib.hid (H 0)
    clear H
    have HP : ∀ k, 1 ≤ k → ptF s a n (k + 1) = 64 * ptF s a n k + byteAt s (a + k) % 64 := fun k hk => by
      obtain ⟨m, rfl⟩ : ∃ m, k = m + 1 := ⟨k - 1, by omega⟩
      rfl
    have HP := Lib.hid HP
    have hn3 : n = 2 ∨ n = 3 ∨ n = 4 := by omega
    have h10 : ptF s a n 1 = if n = 4 then byteAt s a % 8 else if n = 3 then byteAt s a % 16 else byteAt s a % 32 := rfl
    clear h0 e1 hl4
    have hsz : 0 < s.size - a := by omega
    obtain rfl | rfl | rfl := hn3
    · simp at h10
      have h10 := Lib.hid h10
      go_enter Tryz.func45, Tryz.ntmps45
      go_wp2_with (first | (go_at_call 75; refine (HL.out _).mono ?_; rintro e w' ⟨rfl, rfl⟩) | (go_at_call 76; refine (r1_fits s a 2 _ ha hs (by omega)).mono ?_; rintro e w' ⟨rfl, rfl⟩))
      go_loop [9, 10] (fun p i => ∃ k : Nat, 1 ≤ k ∧ k ≤ 2 ∧ i = .int .i64 k ∧ p = .int .i64 (ptF s a 2 k)) (fun _ i => 2 - (RowKit.intOf i).toNat)
      case atStart => exact ⟨1, by omega, by omega, rfl, by rw [h10.out]; go_num⟩
      case round =>
        obtain ⟨k, hk1, hk2, rfl, rfl⟩ := hrel
        have hb1 := byteAt_lt s (a + k)
        have hp1 := ptF_lt s a 2 k (by omega)
        by_cases hk : k < 2
        · have hks : a + k < s.size := by omega
          go_wp2
          go_round
          case rel => exact ⟨k + 1, by omega, by omega, by go_num, by rw [HP.out k hk1]; go_num⟩
          case measure => simp [RowKit.intOf]; omega
        · obtain rfl : k = 2 := by omega
          go_wp2
          go_ret3
          exact ⟨by rw [fin.out]; rfl, rfl⟩
    · simp at h10
      have h10 := Lib.hid h10
      go_enter Tryz.func45, Tryz.ntmps45
      go_wp2_with (first | (go_at_call 75; refine (HL.out _).mono ?_; rintro e w' ⟨rfl, rfl⟩) | (go_at_call 76; refine (r1_fits s a 3 _ ha hs (by omega)).mono ?_; rintro e w' ⟨rfl, rfl⟩))
      go_loop [9, 10] (fun p i => ∃ k : Nat, 1 ≤ k ∧ k ≤ 3 ∧ i = .int .i64 k ∧ p = .int .i64 (ptF s a 3 k)) (fun _ i => 3 - (RowKit.intOf i).toNat)
      case atStart => exact ⟨1, by omega, by omega, rfl, by rw [h10.out]; go_num⟩
      case round =>
        obtain ⟨k, hk1, hk2, rfl, rfl⟩ := hrel
        have hb1 := byteAt_lt s (a + k)
        have hp1 := ptF_lt s a 3 k (by omega)
        by_cases hk : k < 3
        · have hks : a + k < s.size := by omega
          go_wp2
          go_round
          case rel => exact ⟨k + 1, by omega, by omega, by go_num, by rw [HP.out k hk1]; go_num⟩
          case measure => simp [RowKit.intOf]; omega
        · obtain rfl : k = 3 := by omega
          go_wp2
          go_ret3
          exact ⟨by rw [fin.out]; rfl, rfl⟩
    · simp at h10
      have h10 := Lib.hid h10
      go_enter Tryz.func45, Tryz.ntmps45
      go_wp2_with (first | (go_at_call 75; refine (HL.out _).mono ?_; rintro e w' ⟨rfl, rfl⟩) | (go_at_call 76; refine (r1_fits s a 4 _ ha hs (by omega)).mono ?_; rintro e w' ⟨rfl, rfl⟩))
      go_loop [9, 10] (fun p i => ∃ k : Nat, 1 ≤ k ∧ k ≤ 4 ∧ i = .int .i64 k ∧ p = .int .i64 (ptF s a 4 k)) (fun _ i => 4 - (RowKit.intOf i).toNat)
      case atStart => exact ⟨1, by omega, by omega, rfl, by rw [h10.out]; go_num⟩
      case round =>
        obtain ⟨k, hk1, hk2, rfl, rfl⟩ := hrel
        have hb1 := byteAt_lt s (a + k)
        have hp1 := ptF_lt s a 4 k (by omega)
        by_cases hk : k < 4
        · have hks : a + k < s.size := by omega
          go_wp2
          go_round
          case rel => exact ⟨k + 1, by omega, by omega, by go_num, by rw [HP.out k hk1]; go_num⟩
          case measure => simp [RowKit.intOf]; omega
        · obtain rfl : k = 4 := by omega
          go_wp2
          go_ret3
          exact ⟨by rw [fin.out]; rfl, rfl⟩

/-- What is told of the character at a place. -/
def nextV (s : ByteArray) (a : Nat) : Value := .tuple #[.int .i64 (Utf8.decode s a).1, .int .i64 (Utf8.decode s a).2, .bool (okC (Utf8.decode s a))]
theorem r1_Next (s : ByteArray) (a : Nat) (w : World) (ha : a < s.size) (hs : s.size < 4611686018427387904) :
    Calls Tryz.prog 45 #[.string s, .int .i64 a] w fun e w' => e = .returned (nextV s a) ∧ w = w' := by
  by_cases hg : goodAt s a
  · refine (r1_Next_good s a w ha hs hg).mono ?_
    rintro e w' ⟨rfl, rfl⟩
    exact ⟨by unfold nextV; rw [(dec_good s a hg).2], rfl⟩
  · refine (r1_Next_bad s a w ha hs hg).mono ?_
    rintro e w' ⟨rfl, rfl⟩
    exact ⟨by unfold nextV; rw [dec_bad s a hg]; rfl, rfl⟩

end Go.Proofs.YtdphhmigbbgjmaaGreatDoor
end
section
namespace Go.Proofs.YtdphhmigbbgjmaaGreatDoor
open Go.RowKit Go.Lib
attribute [local go_sem] byteAt_get wrap64_byteAt

theorem Tryz.info3 : (Tryz.prog.info? 3).map (fun i => (i.zero, i.size, i.bytes)) = some (some (.int .i64 0), 1, 8) := by kernel_rfl
def iV (n : Nat) : Value := .int .i64 n
theorem r1_Places (s : ByteArray) (w : World) (hs : s.size * 8 ≤ 140737488351232) :
    Calls Tryz.prog 53 #[.string s] w fun e w' => ∃ v, e = .returned v ∧ w'.ownsRow w.heap.size 3 1 v (cnt s.data.toList) ((offs s.data.toList 0).map iV) ∧ Below w.heap.size w w' := by
  obtain ⟨i0, hi, hz0, hz1, hz2⟩ := info_parts Tryz.info3
  have hi := Lib.hid hi
  have hz0 := Lib.hid hz0
  have hz1 := Lib.hid hz1
  have hz2 := Lib.hid hz2
  go_enter Tryz.func53, Tryz.ntmps53
  go_wp2
  go_loopw [3, 4] (fun v i wr => ∃ (pos : Nat) (acc : List Nat), i = .int .i64 pos ∧ pos ≤ s.size ∧ acc.length ≤ pos ∧ acc ++ offs (s.data.toList.drop pos) pos = offs s.data.toList 0 ∧ wr.ownsRow w.heap.size 3 1 v acc.length (acc.map iV) ∧ Below w.heap.size w wr) (fun _ i _ => s.size - (RowKit.intOf i).toNat)
  case atStart => exact ⟨0, [], rfl, Nat.zero_le _, Nat.le_refl _, by simp, World.ownsRow_nil _ _ _ _, Below.refl _ _⟩
  case round =>
    obtain ⟨pos, acc, rfl, hle, hal, hacc, hown, hb⟩ := hrel
    have hacc := Lib.hid hacc
    by_cases hp : pos < s.size
    · have hd1 := dec_pos s pos
      have hd2 := dec_le s pos hp
      have hbs := hb.size
      go_wp2_with (first
        | (at_builtin; refine wpList_append_own _ rfl _ _ 123 rfl w.heap.size 3 i0 (.int .i64 0) 1 8 Tryz.underlying123 hi.out hz0.out hz1.out hz2.out rfl (by decide) _ _ _ rfl (hown.alloc _) ⟨wr.heap.size, 0, none⟩ 1 1 [.int .i64 pos] rfl rfl (cell_one_new _ _ _) (by simp [Value.oneCell']) (by unfold maxLen; omega) (by omega) (by simp; omega) ?_; intro v' w1 hown' hgrow _; have hb1 := (hb.alloc hbs _).grown hgrow (by simp; omega) (fun k e => (hown.lt k e).1))
        | (go_at_call 45; refine (r1_Next _ _ _ hp (by omega)).mono ?_; rintro e w' ⟨rfl, rfl⟩; unfold nextV))
      go_roundw
      case rel => exact ⟨pos + (Utf8.decode s pos).2, acc ++ [pos], by go_num, hd2, by simp; omega, by rw [← hacc.out, offs_at s pos hp]; simp, by simpa [iV] using hown', hb1⟩
      case measure => simp [RowKit.intOf]; omega
    · have e : acc = offs s.data.toList 0 := by rw [← hacc.out, offs_end s pos (by omega), List.append_nil]
      have e2 : acc.length = cnt s.data.toList := by rw [e, offs_len]
      rw [e2, e] at hown
      clear e e2
      go_wp2
      go_ret
      exact ⟨_, rfl, hown, hb⟩
theorem r1_Count (s : ByteArray) (w : World) (hs : s.size * 8 ≤ 140737488351232) :
    Calls Tryz.prog 35 #[.string s] w fun e w' => e = .returned (.int .i64 (cnt s.data.toList)) ∧ Below w.heap.size w w' := by
  go_enter Tryz.func35, Tryz.ntmps35
  go_wp2_with fail
  refine (r1_Places s _ hs).mono ?_
  rintro e w' ⟨v, rfl, hown, hb⟩
  obtain ⟨a, cap, rfl⟩ := ownsRow_shape hown
  go_wp2
  go_ret
  exact ⟨rfl, hb⟩

end Go.Proofs.YtdphhmigbbgjmaaGreatDoor
end
section
namespace Go.Proofs.YtdphhmigbbgjmaaGreatDoor
open Go.RowKit Go.Lib
attribute [local go_sem] byteAt_get wrap64_byteAt

set_option maxHeartbeats 1000000 in
theorem r3_Advance (a l c : Int) (s : ByteArray) (w : World) (hs : s.size * 8 ≤ 140737488351232) (hl : wrap64 l = l) (hc : wrap64 c = c) :
    Calls Tryz.prog 21 #[.agg #[.int .i64 a, .int .i64 l, .int .i64 c], .string s] w fun e w' => e = .returned (advV a l c s) ∧ Below w.heap.size w w' := by
  have hl := Lib.hid hl
  have hc := Lib.hid hc
  go_enter Tryz.func21, Tryz.ntmps21
  go_wp2
  go_loopw [5, 6] (fun f i wr => ∃ (k : Nat) (L C : Int), k ≤ s.size ∧ i = .int .i64 k ∧ f = .int .i64 (fromAt s k) ∧ Hid (L = wrap64 (l + nlAt s k)) ∧ Hid (C = colI (nlAt s k) c) ∧ wr = (w.alloc (.cells #[.int .i64 (wrap64 (a + s.size)), .int .i64 L, .int .i64 C] 26)).alloc (.cells #[.int .i64 0, .int .i64 0, .int .i64 0] 26)) (fun _ i _ => s.size - (RowKit.intOf i).toNat)
  case atStart => exact ⟨0, l, c, Nat.zero_le _, rfl, rfl, by unfold nlAt; simp [hl.out, Hid], by unfold nlAt colI; simp [Hid], rfl⟩
  case round =>
    obtain ⟨k, L, C, hk, rfl, rfl, hL, hC, rfl⟩ := hrel
    have hb0 := byteAt_lt s k
    have hfr := fromAt_le s k
    by_cases hlt : k < s.size
    · by_cases hnl : byteAt s k = 10
      · have e1 : Hid (fromAt s (k + 1) = k + 1) := by unfold fromAt; rw [if_pos hnl]; exact Lib.hid rfl
        have e2 : Hid (nlAt s (k + 1) = nlAt s k + 1) := by show nlAt s (k + 1) = _; rw [nlAt, if_pos hnl]
        have hnl2 : ((byteAt s k : Int) == 10) = true := by simp [hnl]
        clear hnl
        go_wp2
        go_roundw
        case rel => exact ⟨k + 1, _, _, by omega, by go_num, by rw [e1.out]; go_num, by rw [e2.out, hL.out, wrap64_add]; show _ = _; congr 1; omega, by rw [e2.out]; rfl, rfl⟩
        case measure => simp [RowKit.intOf]; omega
      · have e1 : Hid (fromAt s (k + 1) = fromAt s k) := by show fromAt s (k + 1) = _; rw [fromAt, if_neg hnl]
        have e2 : Hid (nlAt s (k + 1) = nlAt s k) := by show nlAt s (k + 1) = _; rw [nlAt, if_neg hnl]
        have hnl2 : ((byteAt s k : Int) == 10) = false := by simp; omega
        go_wp2
        go_roundw
        case rel => exact ⟨k + 1, _, _, by omega, by go_num, by rw [e1.out], by rw [e2.out]; exact hL, by rw [e2.out]; exact hC, rfl⟩
        case measure => simp [RowKit.intOf]; omega
    · obtain rfl : k = s.size := by omega
      go_wp2
      have hx : (s.extract (fromAt s s.size) s.size).size * 8 ≤ 140737488351232 := by simp; omega
      have hB : Blk ((w.alloc (.cells #[.int .i64 (wrap64 (a + s.size)), .int .i64 L, .int .i64 C] 26)).alloc (.cells #[.int .i64 0, .int .i64 0, .int .i64 0] 26)) w.heap.size #[.int .i64 (wrap64 (a + s.size)), .int .i64 L, .int .i64 C] 26 := (Blk.new _ _ _).alloc _
      have hR : Blk ((w.alloc (.cells #[.int .i64 (wrap64 (a + s.size)), .int .i64 L, .int .i64 C] 26)).alloc (.cells #[.int .i64 0, .int .i64 0, .int .i64 0] 26)) (w.heap.size + 1) #[.int .i64 0, .int .i64 0, .int .i64 0] 26 := by have := Blk.new (w.alloc (.cells #[.int .i64 (wrap64 (a + s.size)), .int .i64 L, .int .i64 C] 26)) #[.int .i64 0, .int .i64 0, .int .i64 0] 26; rwa [World.size_alloc] at this
      have h0 : Below w.heap.size w ((w.alloc (.cells #[.int .i64 (wrap64 (a + s.size)), .int .i64 L, .int .i64 C] 26)).alloc (.cells #[.int .i64 0, .int .i64 0, .int .i64 0] 26)) := ((Below.refl _ _).alloc (Nat.le_refl _) _).alloc (by simp) _
      obtain ⟨W, hW⟩ : ∃ W, (w.alloc (.cells #[.int .i64 (wrap64 (a + s.size)), .int .i64 L, .int .i64 C] 26)).alloc (.cells #[.int .i64 0, .int .i64 0, .int .i64 0] 26) = W := ⟨_, rfl⟩
      rw [hW] at hB hR h0 ⊢
      clear hW
      have k0 := hB.cell 0; have k1 := hB.cell 1; have k2 := hB.cell 2; have kf := hB.frozen 2
      simp at k0 k1 k2
      have fin : Hid (advV a l c s = .agg #[.int .i64 (wrap64 (a + s.size)), .int .i64 L, .int .i64 (wrap64 (C + ↑(cnt (List.take (s.size - fromAt s s.size) (List.drop (fromAt s s.size) s.data.toList)))))]) := by
        rw [hL.out, hC.out]; unfold advV tailC; rw [List.take_of_length_le (by rw [List.length_drop, size_len]; exact Nat.le_refl _)]; rfl
      go_region_with (first | (go_at_call 35; refine (r1_Count _ _ hx).mono ?_; rintro e w1 ⟨rfl, hb⟩; replace hB := hB.drew.below' hb; replace hR := hR.drew.below' hb; replace h0 := h0.drew.trans (hb.mono h0.size); replace k0 := hB.cell 0; replace k1 := hB.cell 1; replace k2 := hB.cell 2; replace kf := hB.frozen 2; simp at k0 k1 k2))
      all_goals
        have r0 := hR.cell 0; have r1 := hR.cell 1; have r2 := hR.cell 2; have rf := hR.frozen 0; have rf1 := hR.frozen 1; have rf2 := hR.frozen 2
        simp at r0 r1 r2
        go_wp2
      all_goals
        refine bodyPost_ret (v := .agg #[.int .i64 (wrap64 (a + s.size)), .int .i64 L, .int .i64 (wrap64 (C + ↑(cnt (List.take (s.size - fromAt s s.size) (List.drop (fromAt s s.size) s.data.toList)))))]) ?_ rfl ⟨by rw [fin.out], ?_⟩
        · have hF := (((hR.other ⟨w.heap.size, 2, none⟩ (.int .i64 (wrap64 (C + ↑(cnt (List.take (s.size - fromAt s s.size) (List.drop (fromAt s s.size) s.data.toList)))))) (by simp)).set 0 (.int .i64 (wrap64 (a + s.size)))).set 1 (.int .i64 L)).set 2 (.int .i64 (wrap64 (C + ↑(cnt (List.take (s.size - fromAt s s.size) (List.drop (fromAt s s.size) s.data.toList))))))
          have q0 := hF.cell 0; have q1 := hF.cell 1; have q2 := hF.cell 2
          simp at q0 q1 q2
          simp [results, Tryz.results21, go_sem, q0, q1, q2]
        · exact (((h0.setCell (p := ⟨w.heap.size, 2, none⟩) (by simp) _).setCell (p := ⟨w.heap.size + 1, 0, none⟩) (by simp) _).setCell (p := ⟨w.heap.size + 1, 1, none⟩) (by simp) _).setCell (p := ⟨w.heap.size + 1, 2, none⟩) (by simp) _

end Go.Proofs.YtdphhmigbbgjmaaGreatDoor
end
section
namespace Go.Proofs.YtdphhmigbbgjmaaGreatDoor
open Go.RowKit Go.Lib
attribute [local go_sem] byteAt_get wrap64_byteAt
theorem hasPrefix3 (l : Bs) (a b c : UInt8) : Lib.hasPrefix l [a, b, c] = true ↔ ∃ t, l = a :: b :: c :: t := by
  unfold Lib.hasPrefix
  rw [List.isPrefixOf_iff_prefix]
  constructor
  · rintro ⟨t, rfl⟩; exact ⟨t, rfl⟩
  · rintro ⟨t, rfl⟩; exact ⟨t, rfl⟩
theorem dec_fffd' (t : Bs) : decodeL (239 :: 191 :: 189 :: t) = (65533, 3) := by
  have h : decodeL (239 :: 191 :: 189 :: t) = decodeN (t.length + 3) 239 191 189 ((239 :: 191 :: 189 :: t).getD 3 0 : UInt8).toNat := decL_N _
  rw [h, decodeN_g3 _ _ _ _ _ ⟨by omega, by omega, by omega, by omega, by omega, ⟨by omega, by omega, by omega, by omega⟩, by omega, by omega⟩]
theorem bad_prefix (l : Bs) (hne : l ≠ []) (h : (decodeL l).1 = 65533) : Lib.hasPrefix l [239, 191, 189] = okC (decodeL l) := by
  have hd := decL_N l
  by_cases hp : Lib.hasPrefix l [239, 191, 189] = true
  · obtain ⟨t, rfl⟩ := (hasPrefix3 l 239 191 189).1 hp
    rw [hp, dec_fffd']; rfl
  · have hp' : Lib.hasPrefix l [239, 191, 189] = false := by simpa using hp
    rw [hp']
    by_cases hg : goodN l.length (l.getD 0 0).toNat (l.getD 1 0).toNat (l.getD 2 0).toNat (l.getD 3 0).toNat
    · exfalso
      rcases hg with g | g | g | g
      · rw [hd, decodeN_g1 _ _ _ _ _ g] at h; simp only at h; omega
      · rw [hd, decodeN_g2 _ _ _ _ _ g] at h; simp only at h; omega
      · rw [hd, decodeN_g3 _ _ _ _ _ g] at h
        simp only at h
        apply hp
        rw [hasPrefix3]
        have e0 : (l.getD 0 0).toNat = 239 := by omega
        have e1 : (l.getD 1 0).toNat = 191 := by omega
        have e2 : (l.getD 2 0).toNat = 189 := by omega
        match l, g.2.2.1 with
        | x :: y :: z :: t, _ =>
          simp at e0 e1 e2
          exact ⟨t, by rw [UInt8.toNat_inj.1 (show x.toNat = (239 : UInt8).toNat from e0), UInt8.toNat_inj.1 (show y.toNat = (191 : UInt8).toNat from e1), UInt8.toNat_inj.1 (show z.toNat = (189 : UInt8).toNat from e2)]⟩
      · rw [hd, decodeN_g4 _ _ _ _ _ g] at h
        obtain ⟨g1, g2, g3, g4, g5, g6, g7⟩ := g
        unfold secP at g6
        simp only at h; omega
    · rw [hd, decodeN_bad _ _ _ _ _ (gd_lt _ _) (gd_lt _ _) (gd_lt _ _) (gd_lt _ _) hg]; rfl
theorem dec_fffd (l : Bs) (h : Lib.hasPrefix l [239, 191, 189] = true) : decodeL l = (65533, 3) := by
  obtain ⟨t, rfl⟩ := (hasPrefix3 l 239 191 189).1 h
  exact dec_fffd' t
set_option maxHeartbeats 1000000 in
theorem char_Next (s : ByteArray) (a : Nat) (w : World) (ha : a < s.size) (hs : s.size < 4611686018427387904) :
    Calls Tryz.prog 86 #[.string s, .int .i64 a] w fun e w' => e = .returned (nextV s a) ∧ Below w.heap.size w w' := by
  obtain ⟨t, ht⟩ : ∃ t, t = s.extract a s.size := ⟨_, rfl⟩
  have htl : t.data.toList = s.data.toList.drop a := by rw [ht, extract_list]; simp; exact List.take_of_length_le (by rw [List.length_drop, size_len]; exact Nat.le_refl _)
  have hts : t.size = s.size - a := by rw [ht]; simp
  have hne := drop_ne s a ha
  have hdt : decodeL t.data.toList = Utf8.decode s a := by rw [htl, decodeL_drop]
  have hdt0 : Utf8.decode t 0 = Utf8.decode s a := by rw [← decodeL_drop t 0, List.drop_zero, hdt]
  obtain ⟨p, n, hpn⟩ : ∃ p n, Utf8.decode s a = (p, n) := ⟨_, _, rfl⟩
  have fin : Hid (nextV s a = .tuple #[.int .i64 p, .int .i64 n, .bool (okC (p, n))]) := by unfold nextV; rw [hpn]; exact Lib.hid rfl
  have hple : p ≤ 2147483647 := by have := decode_le s a; rw [hpn] at this; exact this
  have hnx : ∀ ty, (Instr.next (.pointer (some ⟨w.heap.size, 0, none⟩)) true ty).run Tryz.prog (w.iter t 0) = .ok (.tuple #[.bool true, .int .i64 0, .int .i32 p]) (w.iter t n) := fun ty => by
    have := run_next_any (P := Tryz.prog) w t 0 ty (by omega); rw [hdt0, hpn] at this; simpa using this
  have hbp : p = 65533 → Lib.hasPrefix t.data.toList [239, 191, 189] = okC (p, n) := fun h => by
    have := bad_prefix t.data.toList (by rw [htl]; exact hne) (by rw [hdt, hpn]; exact h); rw [this, hdt, hpn]
  have hrl : p ≠ 65533 → Lib.runeLen p = n := fun h => by
    have := runeLen_decode t.data.toList (by rw [hdt, hpn]; exact h); rw [hdt, hpn] at this; exact this
  have hok : p ≠ 65533 → okC (p, n) = true := fun h => by unfold okC; simp [h]
  have hk3 : p = 65533 → okC (p, n) = true → n = 3 := fun h hk => by
    have e1 := hbp h
    rw [hk] at e1
    have := dec_fffd _ e1
    rw [hdt, hpn] at this
    exact congrArg Prod.snd this
  have hbp := Lib.hid hbp; have hrl := Lib.hid hrl; have hok' := Lib.hid hok; have hk3' := Lib.hid hk3
  have hb1 : (0 : Int) ≤ (a : Int) := by omega
  have hb2 : (a : Int) ≤ s.size := by omega
  have hsz1 : s.size < 4611686018427387904 := hs
  have hlt0 : 0 < t.size := by omega
  have hn1 : Hid (Utf8.decode s a = (p, n)) := Lib.hid hpn
  have htx := Lib.hid ht.symm
  clear hdt hdt0 hpn htl hne hts ht hok hk3
  by_cases hp : p = 65533
  · have e1 := hbp.out hp
    have hHP : ∀ W, Calls Tryz.prog 69 #[.string t, .string ⟨#[239, 191, 189]⟩] W fun e w' => e = .returned (.bool (okC (p, n))) ∧ w' = W := fun W => by
      rw [← e1]; exact Tryz.strings_HasPrefix t ⟨#[239, 191, 189]⟩ W
    have hrl3 : Lib.runeLen 65533 = 3 := by rfl
    have hrl3 := Lib.hid hrl3
    cases hk : okC (p, n) with
    | true =>
      have e2 := hk3'.out hp hk
      rw [hk] at hHP fin
      subst hp
      subst e2
      have hHP := Lib.hid hHP
      clear hk hrl e1
      go_enter Tryz.func86, Tryz.ntmps86
      go_wp2_with fail
      rw [htx.out]
      go_loopw [] (fun wr => wr = w.iter t 0) (fun _ => 0)
      case atStart => rfl
      case round =>
        obtain rfl := hrel
        go_wp2_with (first | (go_at_call 100; refine (Tryz.utf8_RuneLen _ _).mono ?_; rintro e w' ⟨rfl, rfl⟩; rw [hrl3.out]) | (go_at_call 69; refine (hHP.out _).mono ?_; rintro e w' ⟨rfl, rfl⟩))
        go_ret3
        exact ⟨by rw [fin.out]; rfl, (Below.refl _ _).alloc (Nat.le_refl _) _⟩
    | false =>
      have hn2 : Hid (n = 1) := by
        have := hk; unfold okC at this; rw [hp] at this; simpa [Hid] using this
      rw [hk] at hHP fin
      rw [hn2.out] at fin
      subst hp
      have hHP := Lib.hid hHP
      clear hk hrl e1
      go_enter Tryz.func86, Tryz.ntmps86
      go_wp2_with fail
      rw [htx.out]
      go_loopw [] (fun wr => wr = w.iter t 0) (fun _ => 0)
      case atStart => rfl
      case round =>
        obtain rfl := hrel
        go_wp2_with (first | (go_at_call 100; refine (Tryz.utf8_RuneLen _ _).mono ?_; rintro e w' ⟨rfl, rfl⟩; rw [hrl3.out]) | (go_at_call 69; refine (hHP.out _).mono ?_; rintro e w' ⟨rfl, rfl⟩))
        go_ret3
        exact ⟨by rw [fin.out]; rfl, (Below.refl _ _).alloc (Nat.le_refl _) _⟩
  · have hpi : ((p : Int) == 65533) = false := by simp; omega
    have hrl2 := Lib.hid (hrl.out hp)
    have hok2 := hok'.out hp
    rw [hok2] at fin
    clear hok2
    go_enter Tryz.func86, Tryz.ntmps86
    go_wp2_with fail
    rw [htx.out]
    go_loopw [] (fun wr => wr = w.iter t 0) (fun _ => 0)
    case atStart => rfl
    case round =>
      obtain rfl := hrel
      go_wp2_with (go_at_call 100; refine (Tryz.utf8_RuneLen _ _).mono ?_; rintro e w' ⟨rfl, rfl⟩; rw [hrl2.out])
      go_ret3
      exact ⟨by rw [fin.out]; rfl, (Below.refl _ _).alloc (Nat.le_refl _) _⟩

end Go.Proofs.YtdphhmigbbgjmaaGreatDoor
end
section
namespace Go.Proofs.YtdphhmigbbgjmaaGreatDoor
open Go.RowKit Go.Lib
attribute [local go_sem] byteAt_get wrap64_byteAt
set_option maxHeartbeats 1000000 in
theorem place_Advance (a l c : Int) (s : ByteArray) (w : World) (hs : s.size < 4611686018427387904) :
    Calls Tryz.prog 39 #[.agg #[.int .i64 a, .int .i64 l, .int .i64 c], .string s] w fun e w' => e = .returned (advV a l c s) ∧ Below w.heap.size w w' := by
  have hcn := Lib.hid (countByte_nl s)
  have hln := Lib.hid (last_from' s)
  have hfr := fromAt_le s s.size
  have hCnt : ∀ W, Calls Tryz.prog 38 #[.string s, .string ⟨#[10]⟩] W fun e w' => e = .returned (.int .i64 (nlAt s s.size)) ∧ W = w' := fun W => by
    rw [← hcn.out]; exact (Tryz.strings_Count_one s 10 W).mono fun e w' ⟨h1, h2⟩ => ⟨h1, h2.symm⟩
  obtain ⟨z, hz⟩ : ∃ z : Int, z = (fromAt s s.size : Int) - 1 := ⟨_, rfl⟩
  have hz0 : -1 ≤ z := by omega
  have hz1 : z + 1 ≤ s.size := by omega
  have hz2 : 0 ≤ z + 1 := by omega
  have hzn : Hid ((z + 1).toNat = fromAt s s.size) := by show (z + 1).toNat = _; omega
  have hLst : ∀ W, Calls Tryz.prog 62 #[.string s, .int .u8 10] W fun e w' => e = .returned (.int .i64 z) ∧ W = w' := fun W => by
    rw [hz, ← hln.out]; exact (Tryz.strings_LastIndexByte s 10 hs W).mono fun e w' ⟨h1, h2⟩ => ⟨h1, h2.symm⟩
  clear hz hfr
  have hCnt := Lib.hid hCnt
  have hLst := Lib.hid hLst
  have hx : (s.extract (z + 1).toNat s.size).size < 4611686018427387904 := by simp; omega
  have fin : ∀ C, C = colI (nlAt s s.size) c → Hid (advV a l c s = .agg #[.int .i64 (wrap64 (a + s.size)), .int .i64 (wrap64 (l + nlAt s s.size)), .int .i64 (wrap64 (C + ↑(cnt (List.take (s.size - (z + 1).toNat) (List.drop (z + 1).toNat s.data.toList)))))]) := fun C hC => by
    rw [hC]; unfold advV tailC; rw [List.take_of_length_le (by rw [List.length_drop, size_len]; exact Nat.le_refl _), hzn.out]; exact Lib.hid rfl
  by_cases h0 : nlAt s s.size = 0
  · have fin := fin c (by unfold colI; rw [if_pos h0])
    have h1 : ((nlAt s s.size : Int) == 0) = true := by simp [h0]
    clear h0
    go_enter Tryz.func39, Tryz.ntmps39
    go_wp2_with (go_at_call 38; refine (hCnt.out _).mono ?_; rintro e w' ⟨rfl, rfl⟩)
    have hB : Blk (((w.alloc (.cells #[.int .i64 a, .int .i64 l, .int .i64 c] 26)).alloc (.cells #[.int .i64 0, .int .i64 0, .int .i64 0] 26)).alloc (.cells #[.int .i64 (wrap64 (a + s.size)), .int .i64 (wrap64 (l + nlAt s s.size)), .int .i64 c] 26)) (w.heap.size + 2) #[.int .i64 (wrap64 (a + s.size)), .int .i64 (wrap64 (l + nlAt s s.size)), .int .i64 c] 26 := by
      have := Blk.new ((w.alloc (.cells #[.int .i64 a, .int .i64 l, .int .i64 c] 26)).alloc (.cells #[.int .i64 0, .int .i64 0, .int .i64 0] 26)) #[.int .i64 (wrap64 (a + s.size)), .int .i64 (wrap64 (l + nlAt s s.size)), .int .i64 c] 26
      rwa [World.size_alloc, World.size_alloc] at this
    have hR : Blk (((w.alloc (.cells #[.int .i64 a, .int .i64 l, .int .i64 c] 26)).alloc (.cells #[.int .i64 0, .int .i64 0, .int .i64 0] 26)).alloc (.cells #[.int .i64 (wrap64 (a + s.size)), .int .i64 (wrap64 (l + nlAt s s.size)), .int .i64 c] 26)) (w.heap.size + 1) #[.int .i64 0, .int .i64 0, .int .i64 0] 26 := by
      have := (Blk.new (w.alloc (.cells #[.int .i64 a, .int .i64 l, .int .i64 c] 26)) #[.int .i64 0, .int .i64 0, .int .i64 0] 26).alloc (.cells #[.int .i64 (wrap64 (a + s.size)), .int .i64 (wrap64 (l + nlAt s s.size)), .int .i64 c] 26)
      rwa [World.size_alloc] at this
    have hb0 : Below w.heap.size w (((w.alloc (.cells #[.int .i64 a, .int .i64 l, .int .i64 c] 26)).alloc (.cells #[.int .i64 0, .int .i64 0, .int .i64 0] 26)).alloc (.cells #[.int .i64 (wrap64 (a + s.size)), .int .i64 (wrap64 (l + nlAt s s.size)), .int .i64 c] 26)) := (((Below.refl _ _).alloc (Nat.le_refl _) _).alloc (by simp) _).alloc (by simp; omega) _
    obtain ⟨W, hW⟩ : ∃ W, ((w.alloc (.cells #[.int .i64 a, .int .i64 l, .int .i64 c] 26)).alloc (.cells #[.int .i64 0, .int .i64 0, .int .i64 0] 26)).alloc (.cells #[.int .i64 (wrap64 (a + s.size)), .int .i64 (wrap64 (l + nlAt s s.size)), .int .i64 c] 26) = W := ⟨_, rfl⟩
    rw [hW] at hB hR hb0 ⊢
    clear hW
    have k0 := hB.cell 0; have k1 := hB.cell 1; have k2 := hB.cell 2; have kf := hB.frozen 2
    simp at k0 k1 k2
    have e1 : IntKind.i64.wrap (z + 1) = z + 1 := IntWalk.i64_in _ (by omega)
    go_region_with (first | (go_at_call 61; refine (char_Count _ _ hx).mono ?_; rintro e w1 ⟨rfl, hb⟩; replace hB := hB.drew.below' hb; replace hR := hR.drew.below' hb; replace hb0 := hb0.drew.trans (hb.mono hb0.size); replace k0 := hB.cell 0; replace k1 := hB.cell 1; replace k2 := hB.cell 2; replace kf := hB.frozen 2; simp at k0 k1 k2) | (go_at_call 62; refine (hLst.out _).mono ?_; rintro e w' ⟨rfl, rfl⟩))
    all_goals
      have r0 := hR.cell 0; have r1 := hR.cell 1; have r2 := hR.cell 2; have rf := hR.frozen 0; have rf1 := hR.frozen 1; have rf2 := hR.frozen 2
      simp at r0 r1 r2
      go_wp2
      refine bodyPost_ret (v := .agg #[.int .i64 (wrap64 (a + s.size)), .int .i64 (wrap64 (l + nlAt s s.size)), .int .i64 (wrap64 (c + ↑(cnt (List.take (s.size - (z + 1).toNat) (List.drop (z + 1).toNat s.data.toList)))))]) ?_ rfl ⟨by rw [fin.out], ?_⟩
      · have hF := (((hR.other ⟨w.heap.size + 2, 2, none⟩ (.int .i64 (wrap64 (c + ↑(cnt (List.take (s.size - (z + 1).toNat) (List.drop (z + 1).toNat s.data.toList)))))) (by simp)).set 0 (.int .i64 (wrap64 (a + s.size)))).set 1 (.int .i64 (wrap64 (l + nlAt s s.size)))).set 2 (.int .i64 (wrap64 (c + ↑(cnt (List.take (s.size - (z + 1).toNat) (List.drop (z + 1).toNat s.data.toList))))))
        have q0 := hF.cell 0; have q1 := hF.cell 1; have q2 := hF.cell 2
        simp at q0 q1 q2
        simp [results, Tryz.results39, go_sem, q0, q1, q2]
      · exact (((hb0.setCell (p := ⟨w.heap.size + 2, 2, none⟩) (by simp) _).setCell (p := ⟨w.heap.size + 1, 0, none⟩) (by simp) _).setCell (p := ⟨w.heap.size + 1, 1, none⟩) (by simp) _).setCell (p := ⟨w.heap.size + 1, 2, none⟩) (by simp) _
  · have fin := fin 1 (by unfold colI; rw [if_neg h0])
    have h1 : ((nlAt s s.size : Int) == 0) = false := by simp; omega
    clear h0
    go_enter Tryz.func39, Tryz.ntmps39
    go_wp2_with (go_at_call 38; refine (hCnt.out _).mono ?_; rintro e w' ⟨rfl, rfl⟩)
    have hB : Blk (((w.alloc (.cells #[.int .i64 a, .int .i64 l, .int .i64 c] 26)).alloc (.cells #[.int .i64 0, .int .i64 0, .int .i64 0] 26)).alloc (.cells #[.int .i64 (wrap64 (a + s.size)), .int .i64 (wrap64 (l + nlAt s s.size)), .int .i64 1] 26)) (w.heap.size + 2) #[.int .i64 (wrap64 (a + s.size)), .int .i64 (wrap64 (l + nlAt s s.size)), .int .i64 1] 26 := by
      have := Blk.new ((w.alloc (.cells #[.int .i64 a, .int .i64 l, .int .i64 c] 26)).alloc (.cells #[.int .i64 0, .int .i64 0, .int .i64 0] 26)) #[.int .i64 (wrap64 (a + s.size)), .int .i64 (wrap64 (l + nlAt s s.size)), .int .i64 1] 26
      rwa [World.size_alloc, World.size_alloc] at this
    have hR : Blk (((w.alloc (.cells #[.int .i64 a, .int .i64 l, .int .i64 c] 26)).alloc (.cells #[.int .i64 0, .int .i64 0, .int .i64 0] 26)).alloc (.cells #[.int .i64 (wrap64 (a + s.size)), .int .i64 (wrap64 (l + nlAt s s.size)), .int .i64 1] 26)) (w.heap.size + 1) #[.int .i64 0, .int .i64 0, .int .i64 0] 26 := by
      have := (Blk.new (w.alloc (.cells #[.int .i64 a, .int .i64 l, .int .i64 c] 26)) #[.int .i64 0, .int .i64 0, .int .i64 0] 26).alloc (.cells #[.int .i64 (wrap64 (a + s.size)), .int .i64 (wrap64 (l + nlAt s s.size)), .int .i64 1] 26)
      rwa [World.size_alloc] at this
    have hb0 : Below w.heap.size w (((w.alloc (.cells #[.int .i64 a, .int .i64 l, .int .i64 c] 26)).alloc (.cells #[.int .i64 0, .int .i64 0, .int .i64 0] 26)).alloc (.cells #[.int .i64 (wrap64 (a + s.size)), .int .i64 (wrap64 (l + nlAt s s.size)), .int .i64 1] 26)) := (((Below.refl _ _).alloc (Nat.le_refl _) _).alloc (by simp) _).alloc (by simp; omega) _
    obtain ⟨W, hW⟩ : ∃ W, ((w.alloc (.cells #[.int .i64 a, .int .i64 l, .int .i64 c] 26)).alloc (.cells #[.int .i64 0, .int .i64 0, .int .i64 0] 26)).alloc (.cells #[.int .i64 (wrap64 (a + s.size)), .int .i64 (wrap64 (l + nlAt s s.size)), .int .i64 1] 26) = W := ⟨_, rfl⟩
    rw [hW] at hB hR hb0 ⊢
    clear hW
    have k0 := hB.cell 0; have k1 := hB.cell 1; have k2 := hB.cell 2; have kf := hB.frozen 2
    simp at k0 k1 k2
    have e1 : IntKind.i64.wrap (z + 1) = z + 1 := IntWalk.i64_in _ (by omega)
    go_region_with (first | (go_at_call 61; refine (char_Count _ _ hx).mono ?_; rintro e w1 ⟨rfl, hb⟩; replace hB := hB.drew.below' hb; replace hR := hR.drew.below' hb; replace hb0 := hb0.drew.trans (hb.mono hb0.size); replace k0 := hB.cell 0; replace k1 := hB.cell 1; replace k2 := hB.cell 2; replace kf := hB.frozen 2; simp at k0 k1 k2) | (go_at_call 62; refine (hLst.out _).mono ?_; rintro e w' ⟨rfl, rfl⟩))
    all_goals
      have r0 := hR.cell 0; have r1 := hR.cell 1; have r2 := hR.cell 2; have rf := hR.frozen 0; have rf1 := hR.frozen 1; have rf2 := hR.frozen 2
      simp at r0 r1 r2
      go_wp2
      refine bodyPost_ret (v := .agg #[.int .i64 (wrap64 (a + s.size)), .int .i64 (wrap64 (l + nlAt s s.size)), .int .i64 (wrap64 (1 + ↑(cnt (List.take (s.size - (z + 1).toNat) (List.drop (z + 1).toNat s.data.toList)))))]) ?_ rfl ⟨by rw [fin.out], ?_⟩
      · have hF := (((hR.other ⟨w.heap.size + 2, 2, none⟩ (.int .i64 (wrap64 (1 + ↑(cnt (List.take (s.size - (z + 1).toNat) (List.drop (z + 1).toNat s.data.toList)))))) (by simp)).set 0 (.int .i64 (wrap64 (a + s.size)))).set 1 (.int .i64 (wrap64 (l + nlAt s s.size)))).set 2 (.int .i64 (wrap64 (1 + ↑(cnt (List.take (s.size - (z + 1).toNat) (List.drop (z + 1).toNat s.data.toList))))))
        have q0 := hF.cell 0; have q1 := hF.cell 1; have q2 := hF.cell 2
        simp at q0 q1 q2
        simp [results, Tryz.results39, go_sem, q0, q1, q2]
      · exact (((hb0.setCell (p := ⟨w.heap.size + 2, 2, none⟩) (by simp) _).setCell (p := ⟨w.heap.size + 1, 0, none⟩) (by simp) _).setCell (p := ⟨w.heap.size + 1, 1, none⟩) (by simp) _).setCell (p := ⟨w.heap.size + 1, 2, none⟩) (by simp) _

end Go.Proofs.YtdphhmigbbgjmaaGreatDoor
end
section
namespace Go.Proofs.YtdphhmigbbgjmaaGreatDoor
open Go.RowKit Go.Lib
def ltrL : List Int := [65, 90, 97, 122, 192, 214, 216, 246, 248, 591, 913, 929, 931, 974, 1024, 1119, 1488, 1514, 1568, 1610, 2308, 2361, 12353, 12438, 12449, 12538, 19968, 40959, 44032, 55203, 66560, 66639, 131072, 196607]
def othL : List Int := [48, 57, 95, 95, 768, 879]
/-- The tables of package class lie as the program's text lays them. -/
structure Clas (w : World) : Prop where
  l : w.rangeAt 2 0 (ltrL.map (Value.int .i64))
  o : w.rangeAt 3 0 (othL.map (Value.int .i64))
theorem range_keep {w w' : World} {b : Nat} {cs : List Value} (h : w.rangeAt b 0 cs) (hb : Below w.heap.size w w') : w'.rangeAt b 0 cs := by
  intro j v hj
  have hc := h j v hj
  have hlt : b < w.heap.size := by
    unfold World.cell? at hc
    rcases Nat.lt_or_ge b w.heap.size with h | h
    · exact h
    · simp [Array.getElem?_eq_none h] at hc
  exact (hb.cell (p := ⟨b, 0 + j, none⟩) hlt).trans hc
theorem Clas.below {w w' : World} (h : Clas w) (hb : Below w.heap.size w w') : Clas w' := ⟨range_keep h.l hb, range_keep h.o hb⟩
def inPairs (p : Int) : List Int → Bool
  | a :: b :: r => (decide (a ≤ p) && decide (p ≤ b)) || inPairs p r
  | _ => false
theorem inPairs_append (p : Int) : ∀ (n : Nat) (l m : List Int), l.length = 2 * n → inPairs p (l ++ m) = (inPairs p l || inPairs p m)
  | 0, l, m, h => by have : l = [] := List.length_eq_zero_iff.1 (by omega); subst this; simp [inPairs]
  | n + 1, a :: b :: r, m, h => by
    have := inPairs_append p n r m (by simp at h; omega)
    simp [inPairs, this, Bool.or_assoc]
  | n + 1, [a], m, h => by simp at h; omega
  | n + 1, [], m, h => by simp at h
theorem inPairs_next (p : Int) (L : List Int) (i : Nat) (h : 2 * i + 1 < L.length) : inPairs p (L.take (2 * (i + 1))) = (inPairs p (L.take (2 * i)) || (decide (L.getD (2 * i) 0 ≤ p) && decide (p ≤ L.getD (2 * i + 1) 0))) := by
  have e : L.take (2 * (i + 1)) = L.take (2 * i) ++ [L.getD (2 * i) 0, L.getD (2 * i + 1) 0] := by
    rw [show 2 * (i + 1) = 2 * i + 1 + 1 by omega, List.take_succ_eq_append_getElem h, List.take_succ_eq_append_getElem (by omega), List.append_assoc]
    simp [List.getD_eq_getElem?_getD, List.getElem?_eq_getElem h, List.getElem?_eq_getElem (show 2 * i < L.length by omega)]
  rw [e, inPairs_append p i _ _ (by simp; omega)]
  simp [inPairs]
theorem pair_cut (L : List Int) (i : Nat) (h : 2 * i + 1 < L.length) : (L.map (Value.int .i64)).toArray.extract (i * 2) (i * 2 + 2) = #[.int .i64 (L.getD (2 * i) 0), .int .i64 (L.getD (2 * i + 1) 0)] := by
  apply Array.ext
  · simp; omega
  · intro j h1 h2
    have hj : j < 2 := by simpa using h2
    rcases (by omega : j = 0 ∨ j = 1) with rfl | rfl
    · simp [Nat.mul_comm i 2, List.getD_eq_getElem?_getD, List.getElem?_eq_getElem (show 2 * i < L.length by omega)]
    · simp [Nat.mul_comm i 2, List.getD_eq_getElem?_getD, List.getElem?_eq_getElem h]
theorem idxP (ty : TypeId) (n : Nat) (L : List Int) (i : Nat) (hu : Tryz.prog.underlying ty = some (.array n 145)) (hi : i < n) (hl : L.length = 2 * n) (w : World) :
    (Instr.index ty (.agg (L.map (Value.int .i64)).toArray) (.int .i64 i)).run Tryz.prog w = .ok (.agg #[.int .i64 (L.getD (2 * i) 0), .int .i64 (L.getD (2 * i + 1) 0)]) w := by
  rw [← pair_cut L i (by omega)]
  simp [Instr.index, run_underlying hu, asIntOf, hi, part, Tryz.isAgg145, Tryz.sizeOf145, go_sem]
def ltrB (p : Int) : Bool := inPairs p ltrL
def partB (p : Int) : Bool := inPairs p othL || ltrB p
set_option maxHeartbeats 1000000 in
set_option maxRecDepth 100000 in
theorem class_Letter (p : Int) (w : World) (hT : Clas w) :
    Calls Tryz.prog 64 #[.int .i64 p] w fun e w' => e = .returned (.bool (ltrB p)) ∧ Below w.heap.size w w' := by
  have hI : ∀ i : Nat, i < 17 → ∀ W, (Instr.index 146 (.agg (ltrL.map (Value.int .i64)).toArray) (.int .i64 i)).run Tryz.prog W = .ok (.agg #[.int .i64 (ltrL.getD (2 * i) 0), .int .i64 (ltrL.getD (2 * i + 1) 0)]) W := fun i hi W => idxP _ 17 ltrL i Tryz.underlying146 hi rfl W
  go_enter Tryz.func64, Tryz.ntmps64
  go_wp2_with (refine wpList_load_mid rfl 146 _ rfl 2 0 rfl (ltrL.map (Value.int .i64)) _ hT.l Tryz.underlying146 rfl (by kernel_rfl) ?_)
  generalize (List.map (Value.int IntKind.i64) ltrL).toArray = A at *
  replace hI := Lib.hid hI
  go_loopw [6] (fun iv W => ∃ i : Nat, iv = .int .i64 i ∧ i ≤ 17 ∧ Hid (inPairs p (ltrL.take (2 * i)) = false) ∧ Below w.heap.size w W) (fun iv _ => 17 - (RowKit.intOf iv).toNat)
  case atStart => exact ⟨0, rfl, by omega, Lib.hid rfl, Below.refl _ _⟩
  case round =>
    obtain ⟨i, rfl, hi, hno, hbb⟩ := hrel
    by_cases h17 : i < 17
    · have hx := hI.out i h17
      have hnx := inPairs_next p ltrL i (by show 2 * i + 1 < 34; omega)
      rw [hno.out, Bool.false_or] at hnx
      obtain ⟨a, ha⟩ : ∃ a, ltrL.getD (2 * i) 0 = a := ⟨_, rfl⟩
      obtain ⟨b, hb⟩ : ∃ b, ltrL.getD (2 * i + 1) 0 = b := ⟨_, rfl⟩
      rw [ha, hb] at hx hnx
      replace hnx := Lib.hid hnx; replace ha := Lib.hid ha; replace hb := Lib.hid hb
      by_cases h1 : a ≤ p
      · by_cases h2 : p ≤ b
        · go_wp2
          go_ret
          refine ⟨?_, hbb.alloc hbb.size _⟩
          have e1 : ltrB p = true := by
            unfold ltrB
            rw [show ltrL = ltrL.take (2 * (i + 1)) ++ ltrL.drop (2 * (i + 1)) by rw [List.take_append_drop], inPairs_append p (i + 1) _ _ (by simp; show min _ 34 = _; omega), hnx.out]
            simp [h1, h2]
          rw [e1]; rfl
        · go_wp2
          go_roundw
          case rel => exact ⟨i + 1, by go_num, by omega, Lib.hid (by rw [hnx.out]; simp [h2]), hbb.alloc hbb.size _⟩
          case measure => simp [RowKit.intOf]; omega
      · go_wp2
        go_roundw
        case rel => exact ⟨i + 1, by go_num, by omega, Lib.hid (by rw [hnx.out]; simp [h1]), hbb.alloc hbb.size _⟩
        case measure => simp [RowKit.intOf]; omega
    · obtain rfl : i = 17 := by omega
      go_wp2
      go_ret
      have e1 : ltrB p = false := hno.out
      exact ⟨by rw [e1]; rfl, hbb⟩
set_option maxHeartbeats 1000000 in
set_option maxRecDepth 100000 in
theorem class_Part (p : Int) (w : World) (hT : Clas w) :
    Calls Tryz.prog 87 #[.int .i64 p] w fun e w' => e = .returned (.bool (partB p)) ∧ Below w.heap.size w w' := by
  have hI : ∀ i : Nat, i < 3 → ∀ W, (Instr.index 152 (.agg (othL.map (Value.int .i64)).toArray) (.int .i64 i)).run Tryz.prog W = .ok (.agg #[.int .i64 (othL.getD (2 * i) 0), .int .i64 (othL.getD (2 * i + 1) 0)]) W := fun i hi W => idxP _ 3 othL i Tryz.underlying152 hi rfl W
  go_enter Tryz.func87, Tryz.ntmps87
  go_wp2_with (refine wpList_load_mid rfl 152 _ rfl 3 0 rfl (othL.map (Value.int .i64)) _ hT.o Tryz.underlying152 rfl (by kernel_rfl) ?_)
  generalize (List.map (Value.int IntKind.i64) othL).toArray = A at *
  replace hI := Lib.hid hI
  go_loopw [6] (fun iv W => ∃ i : Nat, iv = .int .i64 i ∧ i ≤ 3 ∧ Hid (inPairs p (othL.take (2 * i)) = false) ∧ Below w.heap.size w W) (fun iv _ => 3 - (RowKit.intOf iv).toNat)
  case atStart => exact ⟨0, rfl, by omega, Lib.hid rfl, Below.refl _ _⟩
  case round =>
    obtain ⟨i, rfl, hi, hno, hbb⟩ := hrel
    by_cases h17 : i < 3
    · have hx := hI.out i h17
      have hnx := inPairs_next p othL i (by show 2 * i + 1 < 6; omega)
      rw [hno.out, Bool.false_or] at hnx
      obtain ⟨a, ha⟩ : ∃ a, othL.getD (2 * i) 0 = a := ⟨_, rfl⟩
      obtain ⟨b, hb⟩ : ∃ b, othL.getD (2 * i + 1) 0 = b := ⟨_, rfl⟩
      rw [ha, hb] at hx hnx
      replace hnx := Lib.hid hnx; replace ha := Lib.hid ha; replace hb := Lib.hid hb
      by_cases h1 : a ≤ p
      · by_cases h2 : p ≤ b
        · go_wp2
          go_ret
          refine ⟨?_, hbb.alloc hbb.size _⟩
          have e1 : partB p = true := by
            unfold partB
            rw [show othL = othL.take (2 * (i + 1)) ++ othL.drop (2 * (i + 1)) by rw [List.take_append_drop], inPairs_append p (i + 1) _ _ (by simp; show min _ 6 = _; omega), hnx.out]
            simp [h1, h2]
          rw [e1]; rfl
        · go_wp2
          go_roundw
          case rel => exact ⟨i + 1, by go_num, by omega, Lib.hid (by rw [hnx.out]; simp [h2]), hbb.alloc hbb.size _⟩
          case measure => simp [RowKit.intOf]; omega
      · go_wp2
        go_roundw
        case rel => exact ⟨i + 1, by go_num, by omega, Lib.hid (by rw [hnx.out]; simp [h1]), hbb.alloc hbb.size _⟩
        case measure => simp [RowKit.intOf]; omega
    · obtain rfl : i = 3 := by omega
      have e1 : partB p = ltrB p := by unfold partB; rw [show inPairs p othL = false from hno.out]; rfl
      go_wp2_with fail
      refine (class_Letter p _ (hT.below hbb)).mono ?_
      rintro e w2 ⟨rfl, b2⟩
      go_wp2_with fail
      go_ret
      exact ⟨by rw [e1]; rfl, hbb.trans (b2.mono hbb.size)⟩
end Go.Proofs.YtdphhmigbbgjmaaGreatDoor
end
