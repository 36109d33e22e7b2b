/- The model's decoding of a character against the bounds on its bytes, in plain Lean. No program; no condition. -/
import Derived.Test.YtgjlpkocieffeaaDoorUtf
namespace Go.Proofs.YtgjlpkocieffeaaDoor
open Go.RowKit Go.Lib

def secB (f b : Int) : Bool := decide ((if f = 224 then 160 else if f = 240 then 144 else 128) ≤ b) && decide (b ≤ (if f = 237 then 159 else if f = 244 then 143 else 191))
def longN (b : Nat) : Nat := if b ≤ 127 then 1 else if 194 ≤ b ∧ b ≤ 223 then 2 else if 224 ≤ b ∧ b ≤ 239 then 3 else if 240 ≤ b ∧ b ≤ 244 then 4 else 0
def okAt (f : Nat) (j b : Nat) : Bool := decide (128 ≤ b) && decide (b ≤ 191) && (j != 1 || secB f b)
def fitsB (s : ByteArray) (at_ n : Nat) : Bool := (List.range n).all fun j => j == 0 || !decide (at_ + j < s.size) || okAt (byteAt s at_) j (byteAt s (at_ + j))
theorem fitsB_true (s : ByteArray) (a n : Nat) : fitsB s a n = true ↔ ∀ j, 1 ≤ j → j < n → a + j < s.size → okAt (byteAt s a) j (byteAt s (a + j)) = true := by
  unfold fitsB
  rw [List.all_eq_true]
  constructor
  · intro h j h1 h2 h3
    have := h j (List.mem_range.2 h2)
    simp only [Bool.or_eq_true, beq_iff_eq, Bool.not_eq_true', decide_eq_false_iff_not] at this
    rcases this with (h | h) | h
    · omega
    · exact absurd h3 h
    · exact h
  · intro h j hj
    have hj := List.mem_range.1 hj
    simp only [Bool.or_eq_true, beq_iff_eq, Bool.not_eq_true', decide_eq_false_iff_not]
    by_cases h0 : j = 0
    · exact .inl (.inl h0)
    by_cases h1 : a + j < s.size
    · exact .inr (h j (by omega) hj h1)
    · exact .inl (.inr h1)


theorem okAt_eq (f j b : Nat) : okAt f j b = true ↔ 128 ≤ b ∧ b ≤ 191 ∧ (j = 1 → secB f b = true) := by
  unfold okAt; simp only [Bool.and_eq_true, Bool.or_eq_true, decide_eq_true_eq, bne_iff_ne]
  constructor
  · rintro ⟨⟨h1, h2⟩, h3⟩; exact ⟨h1, h2, fun e => h3.resolve_left (fun h => h e)⟩
  · rintro ⟨h1, h2, h3⟩; refine ⟨⟨h1, h2⟩, ?_⟩; by_cases e : j = 1
    · exact .inr (h3 e)
    · exact .inl e
theorem fits_bad {s : ByteArray} {a n k : Nat} (h1 : 1 ≤ k) (h2 : k < n) (h3 : a + k < s.size) (h : okAt (byteAt s a) k (byteAt s (a + k)) = false) : fitsB s a n = false := by
  cases e : fitsB s a n with
  | false => rfl
  | true => rw [(fitsB_true s a n).1 e k h1 h2 h3] at h; cases h
def secP (f b : Nat) : Prop := (f = 224 → 160 ≤ b) ∧ (f = 240 → 144 ≤ b) ∧ (f = 237 → b ≤ 159) ∧ (f = 244 → b ≤ 143)
theorem secB_iff (f b : Nat) (h1 : 128 ≤ b) (h2 : b ≤ 191) : secB f b = true ↔ secP f b := by
  unfold secB secP
  simp only [Bool.and_eq_true, decide_eq_true_eq]
  split <;> split <;> (try split) <;> (try split) <;> omega
def goodN (n b0 b1 b2 b3 : Nat) : Prop :=
  b0 ≤ 127 ∨ (194 ≤ b0 ∧ b0 ≤ 223 ∧ 2 ≤ n ∧ 128 ≤ b1 ∧ b1 ≤ 191) ∨
  (224 ≤ b0 ∧ b0 ≤ 239 ∧ 3 ≤ n ∧ 128 ≤ b1 ∧ b1 ≤ 191 ∧ secP b0 b1 ∧ 128 ≤ b2 ∧ b2 ≤ 191) ∨
  (240 ≤ b0 ∧ b0 ≤ 244 ∧ 4 ≤ n ∧ 128 ≤ b1 ∧ b1 ≤ 191 ∧ secP b0 b1 ∧ 128 ≤ b2 ∧ b2 ≤ 191 ∧ 128 ≤ b3 ∧ b3 ≤ 191)
theorem decodeN_bad (n b0 b1 b2 b3 : Nat) (h0 : b0 < 256) (h1 : b1 < 256) (h2 : b2 < 256) (h3 : b3 < 256) (h : ¬ goodN n b0 b1 b2 b3) : decodeN n b0 b1 b2 b3 = (65533, 1) := by
  unfold goodN secP at h
  unfold decodeN
  repeat' split
  all_goals first | rfl | (exfalso; omega)
theorem decodeN_g1 (n b0 b1 b2 b3 : Nat) (h : b0 ≤ 127) : decodeN n b0 b1 b2 b3 = (b0, 1) := by unfold decodeN; rw [if_pos (by omega)]
theorem decodeN_g2 (n b0 b1 b2 b3 : Nat) (h : 194 ≤ b0 ∧ b0 ≤ 223 ∧ 2 ≤ n ∧ 128 ≤ b1 ∧ b1 ≤ 191) : decodeN n b0 b1 b2 b3 = (64 * (b0 % 32) + b1 % 64, 2) := by
  unfold decodeN
  rw [if_neg (by omega), if_pos (by omega), if_pos (by omega)]; congr 1; omega
theorem decodeN_g3 (n b0 b1 b2 b3 : Nat) (h : 224 ≤ b0 ∧ b0 ≤ 239 ∧ 3 ≤ n ∧ 128 ≤ b1 ∧ b1 ≤ 191 ∧ secP b0 b1 ∧ 128 ≤ b2 ∧ b2 ≤ 191) : decodeN n b0 b1 b2 b3 = (64 * (64 * (b0 % 16) + b1 % 64) + b2 % 64, 3) := by
  unfold secP at h
  unfold decodeN
  rw [if_neg (by omega), if_neg (by omega), if_pos (by omega), if_pos (by omega)]; congr 1; omega
theorem decodeN_g4 (n b0 b1 b2 b3 : Nat) (h : 240 ≤ b0 ∧ b0 ≤ 244 ∧ 4 ≤ n ∧ 128 ≤ b1 ∧ b1 ≤ 191 ∧ secP b0 b1 ∧ 128 ≤ b2 ∧ b2 ≤ 191 ∧ 128 ≤ b3 ∧ b3 ≤ 191) : decodeN n b0 b1 b2 b3 = (64 * (64 * (64 * (b0 % 8) + b1 % 64) + b2 % 64) + b3 % 64, 4) := by
  unfold secP at h
  unfold decodeN
  rw [if_neg (by omega), if_neg (by omega), if_neg (by omega), if_pos (by omega), if_pos (by omega)]; congr 1; omega
theorem dec_at (s : ByteArray) (a : Nat) : Utf8.decode s a = decodeN (s.size - a) (byteAt s a) (byteAt s (a + 1)) (byteAt s (a + 2)) (byteAt s (a + 3)) := by
  rw [decode_N, size_len]; rfl
def goodAt (s : ByteArray) (a : Nat) : Prop := goodN (s.size - a) (byteAt s a) (byteAt s (a + 1)) (byteAt s (a + 2)) (byteAt s (a + 3))
/-- Is a decoded character a good one? -/
def okC (d : Nat × Nat) : Bool := !(d.1 == 65533 && d.2 == 1)
theorem fitsB_iff (s : ByteArray) (a n : Nat) (hn : n ≤ 4) (h : a + n ≤ s.size) : fitsB s a n = true ↔
    (2 ≤ n → 128 ≤ byteAt s (a + 1) ∧ byteAt s (a + 1) ≤ 191 ∧ secP (byteAt s a) (byteAt s (a + 1))) ∧ (3 ≤ n → 128 ≤ byteAt s (a + 2) ∧ byteAt s (a + 2) ≤ 191) ∧ (4 ≤ n → 128 ≤ byteAt s (a + 3) ∧ byteAt s (a + 3) ≤ 191) := by
  rw [fitsB_true]
  constructor
  · intro h'
    refine ⟨fun e => ?_, fun e => ?_, fun e => ?_⟩
    · have := (okAt_eq _ _ _).1 (h' 1 (by omega) (by omega) (by omega))
      exact ⟨this.1, this.2.1, (secB_iff _ _ this.1 this.2.1).1 (this.2.2 rfl)⟩
    · have := (okAt_eq _ _ _).1 (h' 2 (by omega) (by omega) (by omega)); exact ⟨this.1, this.2.1⟩
    · have := (okAt_eq _ _ _).1 (h' 3 (by omega) (by omega) (by omega)); exact ⟨this.1, this.2.1⟩
  · rintro ⟨h1, h2, h3⟩ j j1 j2 j3
    rw [okAt_eq]
    obtain rfl | rfl | rfl : j = 1 ∨ j = 2 ∨ j = 3 := by omega
    · have := h1 (by omega); exact ⟨this.1, this.2.1, fun _ => (secB_iff _ _ this.1 this.2.1).2 this.2.2⟩
    · have := h2 (by omega); exact ⟨this.1, this.2, fun e => absurd e (by omega)⟩
    · have := h3 (by omega); exact ⟨this.1, this.2, fun e => absurd e (by omega)⟩
theorem long_cases (b : Nat) : (b ≤ 127 ∧ longN b = 1) ∨ (194 ≤ b ∧ b ≤ 223 ∧ longN b = 2) ∨ (224 ≤ b ∧ b ≤ 239 ∧ longN b = 3) ∨ (240 ≤ b ∧ b ≤ 244 ∧ longN b = 4) ∨ (127 < b ∧ (b < 194 ∨ 244 < b) ∧ longN b = 0) := by
  unfold longN
  split
  · exact .inl ⟨by assumption, rfl⟩
  split
  · exact .inr (.inl ⟨by omega, by omega, rfl⟩)
  split
  · exact .inr (.inr (.inl ⟨by omega, by omega, rfl⟩))
  split
  · exact .inr (.inr (.inr (.inl ⟨by omega, by omega, rfl⟩)))
  · exact .inr (.inr (.inr (.inr ⟨by omega, by omega, rfl⟩)))
theorem goodAt_iff (s : ByteArray) (a : Nat) (h : a < s.size) : goodAt s a ↔ longN (byteAt s a) ≠ 0 ∧ a + longN (byteAt s a) ≤ s.size ∧ fitsB s a (longN (byteAt s a)) = true := by
  unfold goodAt goodN
  rcases long_cases (byteAt s a) with ⟨h1, e⟩ | ⟨h1, h2, e⟩ | ⟨h1, h2, e⟩ | ⟨h1, h2, e⟩ | ⟨h1, h2, e⟩ <;> rw [e]
  · constructor
    · intro _; exact ⟨by omega, by omega, (fitsB_iff s a 1 (by omega) (by omega)).2 ⟨fun e => by omega, fun e => by omega, fun e => by omega⟩⟩
    · intro _; exact .inl h1
  all_goals constructor
  · intro h
    have h3 : 2 ≤ s.size - a ∧ 128 ≤ byteAt s (a + 1) ∧ byteAt s (a + 1) ≤ 191 := by omega
    exact ⟨by omega, by omega, (fitsB_iff s a 2 (by omega) (by omega)).2 ⟨fun _ => ⟨h3.2.1, h3.2.2, ⟨by omega, by omega, by omega, by omega⟩⟩, fun e => by omega, fun e => by omega⟩⟩
  · rintro ⟨_, h3, h4⟩
    have := ((fitsB_iff s a 2 (by omega) h3).1 h4).1 (by omega)
    exact .inr (.inl ⟨h1, h2, by omega, this.1, this.2.1⟩)
  · intro h
    rcases h with h | h | h | h
    · omega
    · omega
    · obtain ⟨_, _, g1, g2, g3, g4, g5, g6⟩ := h
      exact ⟨by omega, by omega, (fitsB_iff s a 3 (by omega) (by omega)).2 ⟨fun _ => ⟨g2, g3, g4⟩, fun _ => ⟨g5, g6⟩, fun e => by omega⟩⟩
    · omega
  · rintro ⟨_, h3, h4⟩
    have := (fitsB_iff s a 3 (by omega) h3).1 h4
    have g1 := this.1 (by omega); have g2 := this.2.1 (by omega)
    exact .inr (.inr (.inl ⟨h1, h2, by omega, g1.1, g1.2.1, g1.2.2, g2.1, g2.2⟩))
  · intro h
    rcases h with h | h | h | h
    · omega
    · omega
    · omega
    · obtain ⟨_, _, g1, g2, g3, g4, g5, g6, g7, g8⟩ := h
      exact ⟨by omega, by omega, (fitsB_iff s a 4 (by omega) (by omega)).2 ⟨fun _ => ⟨g2, g3, g4⟩, fun _ => ⟨g5, g6⟩, fun _ => ⟨g7, g8⟩⟩⟩
  · rintro ⟨_, h3, h4⟩
    have := (fitsB_iff s a 4 (by omega) h3).1 h4
    have g1 := this.1 (by omega); have g2 := this.2.1 (by omega); have g3 := this.2.2 (by omega)
    exact .inr (.inr (.inr ⟨h1, h2, by omega, g1.1, g1.2.1, g1.2.2, g2.1, g2.2, g3.1, g3.2⟩))
  · intro h
    exfalso
    rcases h with h | h | h | h <;> omega
  · rintro ⟨h, _⟩; exact absurd rfl h
theorem dec_bad (s : ByteArray) (a : Nat) (h : ¬ goodAt s a) : Utf8.decode s a = (65533, 1) := by
  rw [dec_at]; exact decodeN_bad _ _ _ _ _ (byteAt_lt _ _) (byteAt_lt _ _) (byteAt_lt _ _) (byteAt_lt _ _) h
/-- The point of a character of so many bytes, from its first k bytes. -/
def ptF (s : ByteArray) (a n : Nat) : Nat → Nat
  | 0 => 0
  | 1 => if n = 4 then byteAt s a % 8 else if n = 3 then byteAt s a % 16 else byteAt s a % 32
  | k + 2 => 64 * ptF s a n (k + 1) + byteAt s (a + (k + 1)) % 64
theorem ptF_lt (s : ByteArray) (a n k : Nat) (h : k ≤ 4) : ptF s a n k < 8388608 := by
  have h1 : ptF s a n 1 < 32 := by unfold ptF; split; omega; split <;> omega
  have h2 : ptF s a n 2 < 32 * 64 := by have e : ptF s a n 2 = 64 * ptF s a n 1 + byteAt s (a + 1) % 64 := rfl
                                        omega
  have h3 : ptF s a n 3 < 32 * 4096 := by have e : ptF s a n 3 = 64 * ptF s a n 2 + byteAt s (a + 2) % 64 := rfl
                                          omega
  have h4 : ptF s a n 4 < 32 * 262144 := by have e : ptF s a n 4 = 64 * ptF s a n 3 + byteAt s (a + 3) % 64 := rfl
                                            omega
  obtain rfl | rfl | rfl | rfl | rfl : k = 0 ∨ k = 1 ∨ k = 2 ∨ k = 3 ∨ k = 4 := by omega
  · unfold ptF; omega
  all_goals omega
theorem dec_good (s : ByteArray) (a : Nat) (hg : goodAt s a) : Utf8.decode s a = (if longN (byteAt s a) = 1 then byteAt s a else ptF s a (longN (byteAt s a)) (longN (byteAt s a)), longN (byteAt s a)) ∧ okC (Utf8.decode s a) = true := by
  have hd := dec_at s a
  unfold goodAt goodN at hg
  rcases hg with h | h | h | h
  · have e : longN (byteAt s a) = 1 := by unfold longN; rw [if_pos (by omega)]
    rw [decodeN_g1 _ _ _ _ _ h] at hd
    rw [e, if_pos rfl, hd]; refine ⟨rfl, ?_⟩; unfold okC; simp; omega
  · have e : longN (byteAt s a) = 2 := by unfold longN; rw [if_neg (by omega), if_pos (by omega)]
    rw [decodeN_g2 _ _ _ _ _ h] at hd
    rw [e, if_neg (by omega), hd]; refine ⟨?_, by unfold okC; simp⟩
    simp [ptF]
  · have e : longN (byteAt s a) = 3 := by unfold longN; rw [if_neg (by omega), if_neg (by omega), if_pos (by omega)]
    rw [decodeN_g3 _ _ _ _ _ h] at hd
    rw [e, if_neg (by omega), hd]; refine ⟨?_, by unfold okC; simp⟩
    simp [ptF]
  · have e : longN (byteAt s a) = 4 := by unfold longN; rw [if_neg (by omega), if_neg (by omega), if_neg (by omega), if_pos (by omega)]
    rw [decodeN_g4 _ _ _ _ _ h] at hd
    rw [e, if_neg (by omega), hd]; refine ⟨?_, by unfold okC; simp⟩
    simp [ptF]
theorem okC_bad : okC (65533, 1) = false := rfl

end Go.Proofs.YtgjlpkocieffeaaDoor
