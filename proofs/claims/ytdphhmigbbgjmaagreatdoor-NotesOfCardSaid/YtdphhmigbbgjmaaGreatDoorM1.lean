/- Characters of a list of bytes in plain Lean, by the model's own decoding: how many there are, from which place on. No program; no condition. The model's decoding of a character against the bounds on its bytes, in plain Lean. No program; no condition. Beginnings of characters in a list of bytes, in plain Lean: decoding in a beginning of a text, counting across a character's border. No program; no condition. Small lemmas on blocks of memory: a block known whole, across calls that keep what lies below, new blocks and stores. No program; no condition. A row of bytes that the call itself appends to: the laws at this program's types. Conditions: its length is at most 2^47. The lines of a text in plain Lean. No program; no condition. Lines and columns in plain Lean: how many line feeds stand ahead, where the last line begins, the place behind a text. No program; no condition. A text is its lines with a line feed between each two, in plain Lean. No program; no condition. Lines and columns of the characters of a text, in plain Lean. No program; conditions: places within the text. A cut of a text under a word of its own, so that the walk leaves its length alone. -/
import Derived.Lib.TrimUEq
import Derived.Lib.MapLaws
import Derived.WalkKit
import Derived.OwnWalk
import Derived.Below
import Derived.Lib.Hide
import Derived.Outline
import Derived.LoopTactic
import Derived.Deep.RegionHeld3
import Derived.Deep.DeepCutAuto
import Derived.Maps.AppendAt
import Derived.Test.YtdphhmigbbgjmaaGreatDoorProg
import Derived.Lib.AppendStr
import Derived.Lib.UnsafeStr
import Derived.Laws.IdiomStrings
import Derived.Laws.BytesArg
import Derived.Lib.LastIndexByte
import Derived.Lib.Bytealg
section
namespace Go.Proofs.YtdphhmigbbgjmaaGreatDoor
open Go.Lib Go.RowKit

abbrev Bs := List UInt8

theorem decL_pos (l : Bs) : 1 ≤ (decodeL l).2 := by rw [decodeL_N]; exact decodeN_ge1 _ _ _ _ _
theorem decL_le (l : Bs) (h : l ≠ []) : (decodeL l).2 ≤ l.length := decodeL_le l h

/-- How many characters a text has. -/
def cnt : Bs → Nat
  | [] => 0
  | b :: t => 1 + cnt (t.drop ((decodeL (b :: t)).2 - 1))
termination_by l => l.length
decreasing_by simp only [List.length_drop, List.length_cons]; omega

theorem cnt_nil : cnt [] = 0 := by unfold cnt; rfl
theorem cnt_step (l : Bs) (h : l ≠ []) : cnt l = 1 + cnt (l.drop (decodeL l).2) := by
  cases l with
  | nil => exact absurd rfl h
  | cons b t =>
    have := decL_pos (b :: t)
    rw [cnt]
    congr 2
    obtain ⟨n, hn⟩ : ∃ n, (decodeL (b :: t)).2 = n + 1 := ⟨(decodeL (b :: t)).2 - 1, by omega⟩
    rw [hn]; rfl
theorem cnt_le (l : Bs) : cnt l ≤ l.length := by
  induction h : l.length using Nat.strongRecOn generalizing l with
  | _ n ih =>
    by_cases e : l = []
    · subst e; simp [cnt_nil]
    · have h1 := decL_pos l
      have h2 := decL_le l e
      rw [cnt_step l e]
      have := ih (l.drop (decodeL l).2).length (by rw [List.length_drop]; omega) _ rfl
      rw [List.length_drop] at this; omega

theorem size_len (s : ByteArray) : s.data.toList.length = s.size := by simp
theorem drop_ne (s : ByteArray) (p : Nat) (h : p < s.size) : s.data.toList.drop p ≠ [] := by
  intro e; have := congrArg List.length e; rw [List.length_drop, size_len] at this; simp at this; omega
theorem cnt_at (s : ByteArray) (p : Nat) (h : p < s.size) :
    cnt (s.data.toList.drop p) = 1 + cnt (s.data.toList.drop (p + (Utf8.decode s p).2)) := by
  rw [cnt_step _ (drop_ne s p h), decodeL_drop, List.drop_drop]
theorem dec_le (s : ByteArray) (p : Nat) (h : p < s.size) : p + (Utf8.decode s p).2 ≤ s.size := by
  have := decL_le _ (drop_ne s p h); rw [decodeL_drop, List.length_drop, size_len] at this; omega
theorem dec_pos (s : ByteArray) (p : Nat) : 1 ≤ (Utf8.decode s p).2 := by rw [← decodeL_drop]; exact decL_pos _
theorem cnt_end (s : ByteArray) (p : Nat) (h : s.size ≤ p) : cnt (s.data.toList.drop p) = 0 := by
  rw [List.drop_eq_nil_of_le (by rw [size_len]; exact h), cnt_nil]


/-- The same with a bound on the rounds: what it is of a given text, a computation shows. -/
def cntF : Nat → Bs → Nat
  | 0, _ => 0
  | _ + 1, [] => 0
  | f + 1, b :: t => 1 + cntF f ((b :: t).drop (decodeL (b :: t)).2)
/-- Where its characters begin, counted from p on. -/
def offs : Bs → Nat → List Nat
  | [], _ => []
  | b :: t, p => p :: offs (t.drop ((decodeL (b :: t)).2 - 1)) (p + (decodeL (b :: t)).2)
termination_by l => l.length
decreasing_by simp only [List.length_drop, List.length_cons]; omega
theorem offs_nil (p : Nat) : offs [] p = [] := by unfold offs; rfl
theorem offs_step (l : Bs) (p : Nat) (h : l ≠ []) : offs l p = p :: offs (l.drop (decodeL l).2) (p + (decodeL l).2) := by
  cases l with
  | nil => exact absurd rfl h
  | cons b t =>
    have := decL_pos (b :: t)
    rw [offs]
    obtain ⟨n, hn⟩ : ∃ n, (decodeL (b :: t)).2 = n + 1 := ⟨(decodeL (b :: t)).2 - 1, by omega⟩
    rw [hn]; rfl
theorem offs_len (l : Bs) : ∀ p, (offs l p).length = cnt l := by
  induction h : l.length using Nat.strongRecOn generalizing l with
  | _ n ih =>
    intro p
    by_cases e : l = []
    · subst e; simp [cnt_nil, offs_nil]
    · have h1 := decL_pos l
      have h2 := decL_le l e
      rw [cnt_step l e, offs_step l p e, List.length_cons, ih (l.drop (decodeL l).2).length (by rw [List.length_drop]; omega) _ rfl]; omega
theorem offs_at (s : ByteArray) (p : Nat) (h : p < s.size) : offs (s.data.toList.drop p) p = p :: offs (s.data.toList.drop (p + (Utf8.decode s p).2)) (p + (Utf8.decode s p).2) := by
  rw [offs_step _ _ (drop_ne s p h), decodeL_drop, List.drop_drop]
theorem offs_end (s : ByteArray) (p : Nat) (h : s.size ≤ p) : offs (s.data.toList.drop p) p = [] := by
  rw [List.drop_eq_nil_of_le (by rw [size_len]; exact h), offs_nil]

/-- The byte at a place. -/
def byteAt (s : ByteArray) (i : Nat) : Nat := (s.data.toList.getD i 0).toNat
theorem byteAt_get (s : ByteArray) (i : Nat) (h : i < s.size) : (s[i]'h).toNat = byteAt s i := by
  unfold byteAt; rw [List.getD_eq_getElem?_getD, List.getElem?_eq_getElem (by simpa using h)]; rfl
theorem byteAt_lt (s : ByteArray) (i : Nat) : byteAt s i < 256 := UInt8.toNat_lt _
theorem wrap64_byteAt (s : ByteArray) (i : Nat) : wrap64 (byteAt s i : Int) = (byteAt s i : Int) := by
  have := byteAt_lt s i; unfold wrap64; omega

end Go.Proofs.YtdphhmigbbgjmaaGreatDoor
end
section
namespace Go.Proofs.YtdphhmigbbgjmaaGreatDoor
open Go.RowKit Go.Lib

def secB (f b : Int) : Bool := decide ((if f = 224 then 160 else if f = 240 then 144 else 128) ≤ b) && decide (b ≤ (if f = 237 then 159 else if f = 244 then 143 else 191))
def longN (b : Nat) : Nat := if b ≤ 127 then 1 else if 194 ≤ b ∧ b ≤ 223 then 2 else if 224 ≤ b ∧ b ≤ 239 then 3 else if 240 ≤ b ∧ b ≤ 244 then 4 else 0
def okAt (f : Nat) (j b : Nat) : Bool := decide (128 ≤ b) && decide (b ≤ 191) && (j != 1 || secB f b)
def fitsB (s : ByteArray) (at_ n : Nat) : Bool := (List.range n).all fun j => j == 0 || !decide (at_ + j < s.size) || okAt (byteAt s at_) j (byteAt s (at_ + j))
theorem fitsB_true (s : ByteArray) (a n : Nat) : fitsB s a n = true ↔ ∀ j, 1 ≤ j → j < n → a + j < s.size → okAt (byteAt s a) j (byteAt s (a + j)) = true := by
  unfold fitsB
  rw [List.all_eq_true]
  constructor
  · intro h j h1 h2 h3
    have := h j (List.mem_range.2 h2)
    simp only [Bool.or_eq_true, beq_iff_eq, Bool.not_eq_true', decide_eq_false_iff_not] at this
    rcases this with (h | h) | h
    · omega
    · exact absurd h3 h
    · exact h
  · intro h j hj
    have hj := List.mem_range.1 hj
    simp only [Bool.or_eq_true, beq_iff_eq, Bool.not_eq_true', decide_eq_false_iff_not]
    by_cases h0 : j = 0
    · exact .inl (.inl h0)
    by_cases h1 : a + j < s.size
    · exact .inr (h j (by omega) hj h1)
    · exact .inl (.inr h1)


theorem okAt_eq (f j b : Nat) : okAt f j b = true ↔ 128 ≤ b ∧ b ≤ 191 ∧ (j = 1 → secB f b = true) := by
  unfold okAt; simp only [Bool.and_eq_true, Bool.or_eq_true, decide_eq_true_eq, bne_iff_ne]
  constructor
  · rintro ⟨⟨h1, h2⟩, h3⟩; exact ⟨h1, h2, fun e => h3.resolve_left (fun h => h e)⟩
  · rintro ⟨h1, h2, h3⟩; refine ⟨⟨h1, h2⟩, ?_⟩; by_cases e : j = 1
    · exact .inr (h3 e)
    · exact .inl e
theorem fits_bad {s : ByteArray} {a n k : Nat} (h1 : 1 ≤ k) (h2 : k < n) (h3 : a + k < s.size) (h : okAt (byteAt s a) k (byteAt s (a + k)) = false) : fitsB s a n = false := by
  cases e : fitsB s a n with
  | false => rfl
  | true => rw [(fitsB_true s a n).1 e k h1 h2 h3] at h; cases h
def secP (f b : Nat) : Prop := (f = 224 → 160 ≤ b) ∧ (f = 240 → 144 ≤ b) ∧ (f = 237 → b ≤ 159) ∧ (f = 244 → b ≤ 143)
theorem secB_iff (f b : Nat) (h1 : 128 ≤ b) (h2 : b ≤ 191) : secB f b = true ↔ secP f b := by
  unfold secB secP
  simp only [Bool.and_eq_true, decide_eq_true_eq]
  split <;> split <;> (try split) <;> (try split) <;> omega
def goodN (n b0 b1 b2 b3 : Nat) : Prop :=
  b0 ≤ 127 ∨ (194 ≤ b0 ∧ b0 ≤ 223 ∧ 2 ≤ n ∧ 128 ≤ b1 ∧ b1 ≤ 191) ∨
  (224 ≤ b0 ∧ b0 ≤ 239 ∧ 3 ≤ n ∧ 128 ≤ b1 ∧ b1 ≤ 191 ∧ secP b0 b1 ∧ 128 ≤ b2 ∧ b2 ≤ 191) ∨
  (240 ≤ b0 ∧ b0 ≤ 244 ∧ 4 ≤ n ∧ 128 ≤ b1 ∧ b1 ≤ 191 ∧ secP b0 b1 ∧ 128 ≤ b2 ∧ b2 ≤ 191 ∧ 128 ≤ b3 ∧ b3 ≤ 191)
theorem decodeN_bad (n b0 b1 b2 b3 : Nat) (h0 : b0 < 256) (h1 : b1 < 256) (h2 : b2 < 256) (h3 : b3 < 256) (h : ¬ goodN n b0 b1 b2 b3) : decodeN n b0 b1 b2 b3 = (65533, 1) := by
  unfold goodN secP at h
  unfold decodeN
  repeat' split
  all_goals first | rfl | (exfalso; omega)
theorem decodeN_g1 (n b0 b1 b2 b3 : Nat) (h : b0 ≤ 127) : decodeN n b0 b1 b2 b3 = (b0, 1) := by unfold decodeN; rw [if_pos (by omega)]
theorem decodeN_g2 (n b0 b1 b2 b3 : Nat) (h : 194 ≤ b0 ∧ b0 ≤ 223 ∧ 2 ≤ n ∧ 128 ≤ b1 ∧ b1 ≤ 191) : decodeN n b0 b1 b2 b3 = (64 * (b0 % 32) + b1 % 64, 2) := by
  unfold decodeN
  rw [if_neg (by omega), if_pos (by omega), if_pos (by omega)]; congr 1; omega
theorem decodeN_g3 (n b0 b1 b2 b3 : Nat) (h : 224 ≤ b0 ∧ b0 ≤ 239 ∧ 3 ≤ n ∧ 128 ≤ b1 ∧ b1 ≤ 191 ∧ secP b0 b1 ∧ 128 ≤ b2 ∧ b2 ≤ 191) : decodeN n b0 b1 b2 b3 = (64 * (64 * (b0 % 16) + b1 % 64) + b2 % 64, 3) := by
  unfold secP at h
  unfold decodeN
  rw [if_neg (by omega), if_neg (by omega), if_pos (by omega), if_pos (by omega)]; congr 1; omega
theorem decodeN_g4 (n b0 b1 b2 b3 : Nat) (h : 240 ≤ b0 ∧ b0 ≤ 244 ∧ 4 ≤ n ∧ 128 ≤ b1 ∧ b1 ≤ 191 ∧ secP b0 b1 ∧ 128 ≤ b2 ∧ b2 ≤ 191 ∧ 128 ≤ b3 ∧ b3 ≤ 191) : decodeN n b0 b1 b2 b3 = (64 * (64 * (64 * (b0 % 8) + b1 % 64) + b2 % 64) + b3 % 64, 4) := by
  unfold secP at h
  unfold decodeN
  rw [if_neg (by omega), if_neg (by omega), if_neg (by omega), if_pos (by omega), if_pos (by omega)]; congr 1; omega
theorem dec_at (s : ByteArray) (a : Nat) : Utf8.decode s a = decodeN (s.size - a) (byteAt s a) (byteAt s (a + 1)) (byteAt s (a + 2)) (byteAt s (a + 3)) := by
  rw [decode_N, size_len]; rfl
def goodAt (s : ByteArray) (a : Nat) : Prop := goodN (s.size - a) (byteAt s a) (byteAt s (a + 1)) (byteAt s (a + 2)) (byteAt s (a + 3))
/-- Is a decoded character a good one? -/
def okC (d : Nat × Nat) : Bool := !(d.1 == 65533 && d.2 == 1)
theorem fitsB_iff (s : ByteArray) (a n : Nat) (hn : n ≤ 4) (h : a + n ≤ s.size) : fitsB s a n = true ↔
    (2 ≤ n → 128 ≤ byteAt s (a + 1) ∧ byteAt s (a + 1) ≤ 191 ∧ secP (byteAt s a) (byteAt s (a + 1))) ∧ (3 ≤ n → 128 ≤ byteAt s (a + 2) ∧ byteAt s (a + 2) ≤ 191) ∧ (4 ≤ n → 128 ≤ byteAt s (a + 3) ∧ byteAt s (a + 3) ≤ 191) := by
  rw [fitsB_true]
  constructor
  · intro h'
    refine ⟨fun e => ?_, fun e => ?_, fun e => ?_⟩
    · have := (okAt_eq _ _ _).1 (h' 1 (by omega) (by omega) (by omega))
      exact ⟨this.1, this.2.1, (secB_iff _ _ this.1 this.2.1).1 (this.2.2 rfl)⟩
    · have := (okAt_eq _ _ _).1 (h' 2 (by omega) (by omega) (by omega)); exact ⟨this.1, this.2.1⟩
    · have := (okAt_eq _ _ _).1 (h' 3 (by omega) (by omega) (by omega)); exact ⟨this.1, this.2.1⟩
  · rintro ⟨h1, h2, h3⟩ j j1 j2 j3
    rw [okAt_eq]
    obtain rfl | rfl | rfl : j = 1 ∨ j = 2 ∨ j = 3 := by omega
    · have := h1 (by omega); exact ⟨this.1, this.2.1, fun _ => (secB_iff _ _ this.1 this.2.1).2 this.2.2⟩
    · have := h2 (by omega); exact ⟨this.1, this.2, fun e => absurd e (by omega)⟩
    · have := h3 (by omega); exact ⟨this.1, this.2, fun e => absurd e (by omega)⟩
theorem long_cases (b : Nat) : (b ≤ 127 ∧ longN b = 1) ∨ (194 ≤ b ∧ b ≤ 223 ∧ longN b = 2) ∨ (224 ≤ b ∧ b ≤ 239 ∧ longN b = 3) ∨ (240 ≤ b ∧ b ≤ 244 ∧ longN b = 4) ∨ (127 < b ∧ (b < 194 ∨ 244 < b) ∧ longN b = 0) := by
  unfold longN
  split
  · exact .inl ⟨by assumption, rfl⟩
  split
  · exact .inr (.inl ⟨by omega, by omega, rfl⟩)
  split
  · exact .inr (.inr (.inl ⟨by omega, by omega, rfl⟩))
  split
  · exact .inr (.inr (.inr (.inl ⟨by omega, by omega, rfl⟩)))
  · exact .inr (.inr (.inr (.inr ⟨by omega, by omega, rfl⟩)))
theorem goodAt_iff (s : ByteArray) (a : Nat) (h : a < s.size) : goodAt s a ↔ longN (byteAt s a) ≠ 0 ∧ a + longN (byteAt s a) ≤ s.size ∧ fitsB s a (longN (byteAt s a)) = true := by
  unfold goodAt goodN
  rcases long_cases (byteAt s a) with ⟨h1, e⟩ | ⟨h1, h2, e⟩ | ⟨h1, h2, e⟩ | ⟨h1, h2, e⟩ | ⟨h1, h2, e⟩ <;> rw [e]
  · constructor
    · intro _; exact ⟨by omega, by omega, (fitsB_iff s a 1 (by omega) (by omega)).2 ⟨fun e => by omega, fun e => by omega, fun e => by omega⟩⟩
    · intro _; exact .inl h1
  all_goals constructor
  · intro h
    have h3 : 2 ≤ s.size - a ∧ 128 ≤ byteAt s (a + 1) ∧ byteAt s (a + 1) ≤ 191 := by omega
    exact ⟨by omega, by omega, (fitsB_iff s a 2 (by omega) (by omega)).2 ⟨fun _ => ⟨h3.2.1, h3.2.2, ⟨by omega, by omega, by omega, by omega⟩⟩, fun e => by omega, fun e => by omega⟩⟩
  · rintro ⟨_, h3, h4⟩
    have := ((fitsB_iff s a 2 (by omega) h3).1 h4).1 (by omega)
    exact .inr (.inl ⟨h1, h2, by omega, this.1, this.2.1⟩)
  · intro h
    rcases h with h | h | h | h
    · omega
    · omega
    · obtain ⟨_, _, g1, g2, g3, g4, g5, g6⟩ := h
      exact ⟨by omega, by omega, (fitsB_iff s a 3 (by omega) (by omega)).2 ⟨fun _ => ⟨g2, g3, g4⟩, fun _ => ⟨g5, g6⟩, fun e => by omega⟩⟩
    · omega
  · rintro ⟨_, h3, h4⟩
    have := (fitsB_iff s a 3 (by omega) h3).1 h4
    have g1 := this.1 (by omega); have g2 := this.2.1 (by omega)
    exact .inr (.inr (.inl ⟨h1, h2, by omega, g1.1, g1.2.1, g1.2.2, g2.1, g2.2⟩))
  · intro h
    rcases h with h | h | h | h
    · omega
    · omega
    · omega
    · obtain ⟨_, _, g1, g2, g3, g4, g5, g6, g7, g8⟩ := h
      exact ⟨by omega, by omega, (fitsB_iff s a 4 (by omega) (by omega)).2 ⟨fun _ => ⟨g2, g3, g4⟩, fun _ => ⟨g5, g6⟩, fun _ => ⟨g7, g8⟩⟩⟩
  · rintro ⟨_, h3, h4⟩
    have := (fitsB_iff s a 4 (by omega) h3).1 h4
    have g1 := this.1 (by omega); have g2 := this.2.1 (by omega); have g3 := this.2.2 (by omega)
    exact .inr (.inr (.inr ⟨h1, h2, by omega, g1.1, g1.2.1, g1.2.2, g2.1, g2.2, g3.1, g3.2⟩))
  · intro h
    exfalso
    rcases h with h | h | h | h <;> omega
  · rintro ⟨h, _⟩; exact absurd rfl h
theorem dec_bad (s : ByteArray) (a : Nat) (h : ¬ goodAt s a) : Utf8.decode s a = (65533, 1) := by
  rw [dec_at]; exact decodeN_bad _ _ _ _ _ (byteAt_lt _ _) (byteAt_lt _ _) (byteAt_lt _ _) (byteAt_lt _ _) h
/-- The point of a character of so many bytes, from its first k bytes. -/
def ptF (s : ByteArray) (a n : Nat) : Nat → Nat
  | 0 => 0
  | 1 => if n = 4 then byteAt s a % 8 else if n = 3 then byteAt s a % 16 else byteAt s a % 32
  | k + 2 => 64 * ptF s a n (k + 1) + byteAt s (a + (k + 1)) % 64
theorem ptF_lt (s : ByteArray) (a n k : Nat) (h : k ≤ 4) : ptF s a n k < 8388608 := by
  have h1 : ptF s a n 1 < 32 := by unfold ptF; split; omega; split <;> omega
  have h2 : ptF s a n 2 < 32 * 64 := by have e : ptF s a n 2 = 64 * ptF s a n 1 + byteAt s (a + 1) % 64 := rfl
                                        omega
  have h3 : ptF s a n 3 < 32 * 4096 := by have e : ptF s a n 3 = 64 * ptF s a n 2 + byteAt s (a + 2) % 64 := rfl
                                          omega
  have h4 : ptF s a n 4 < 32 * 262144 := by have e : ptF s a n 4 = 64 * ptF s a n 3 + byteAt s (a + 3) % 64 := rfl
                                            omega
  obtain rfl | rfl | rfl | rfl | rfl : k = 0 ∨ k = 1 ∨ k = 2 ∨ k = 3 ∨ k = 4 := by omega
  · unfold ptF; omega
  all_goals omega
theorem dec_good (s : ByteArray) (a : Nat) (hg : goodAt s a) : Utf8.decode s a = (if longN (byteAt s a) = 1 then byteAt s a else ptF s a (longN (byteAt s a)) (longN (byteAt s a)), longN (byteAt s a)) ∧ okC (Utf8.decode s a) = true := by
  have hd := dec_at s a
  unfold goodAt goodN at hg
  rcases hg with h | h | h | h
  · have e : longN (byteAt s a) = 1 := by unfold longN; rw [if_pos (by omega)]
    rw [decodeN_g1 _ _ _ _ _ h] at hd
    rw [e, if_pos rfl, hd]; refine ⟨rfl, ?_⟩; unfold okC; simp; omega
  · have e : longN (byteAt s a) = 2 := by unfold longN; rw [if_neg (by omega), if_pos (by omega)]
    rw [decodeN_g2 _ _ _ _ _ h] at hd
    rw [e, if_neg (by omega), hd]; refine ⟨?_, by unfold okC; simp⟩
    simp [ptF]
  · have e : longN (byteAt s a) = 3 := by unfold longN; rw [if_neg (by omega), if_neg (by omega), if_pos (by omega)]
    rw [decodeN_g3 _ _ _ _ _ h] at hd
    rw [e, if_neg (by omega), hd]; refine ⟨?_, by unfold okC; simp⟩
    simp [ptF]
  · have e : longN (byteAt s a) = 4 := by unfold longN; rw [if_neg (by omega), if_neg (by omega), if_neg (by omega), if_pos (by omega)]
    rw [decodeN_g4 _ _ _ _ _ h] at hd
    rw [e, if_neg (by omega), hd]; refine ⟨?_, by unfold okC; simp⟩
    simp [ptF]
end Go.Proofs.YtdphhmigbbgjmaaGreatDoor
end
section
namespace Go.Proofs.YtdphhmigbbgjmaaGreatDoor
open Go.RowKit Go.Lib
theorem getD_take (l : Bs) (k i : Nat) (h : i < k) : (l.take k).getD i 0 = l.getD i 0 := by
  simp [List.getD_eq_getElem?_getD, h]
theorem take_ne {l : Bs} {k : Nat} (h : l ≠ []) (hk : 0 < k) : l.take k ≠ [] := by
  cases l with
  | nil => exact absurd rfl h
  | cons b t => cases k with | zero => omega | succ k => simp
theorem decL_N (l : Bs) : decodeL l = decodeN l.length (l.getD 0 0).toNat (l.getD 1 0).toNat (l.getD 2 0).toNat (l.getD 3 0).toNat := decodeL_N l
theorem gd_lt (l : Bs) (i : Nat) : (l.getD i 0).toNat < 256 := UInt8.toNat_lt _
/-- A character is decoded alike in whatever beginning holds it whole. -/
theorem dec_take (l : Bs) (k : Nat) (hk : (decodeL l).2 ≤ k) (hl : k ≤ l.length) : decodeL (l.take k) = decodeL l := by
  have h1 := decL_pos l
  rw [decL_N] at hk h1 ⊢
  rw [decL_N, List.length_take, Nat.min_eq_left hl, getD_take l k 0 (by omega)]
  by_cases hg : goodN l.length (l.getD 0 0).toNat (l.getD 1 0).toNat (l.getD 2 0).toNat (l.getD 3 0).toNat
  · rcases hg with h | h | h | h
    · rw [decodeN_g1 _ _ _ _ _ h, decodeN_g1 _ _ _ _ _ h]
    · rw [decodeN_g2 _ _ _ _ _ h] at hk ⊢
      have hk : 2 ≤ k := hk
      rw [getD_take l k 1 (by omega), decodeN_g2 _ _ _ _ _ ⟨h.1, h.2.1, hk, h.2.2.2⟩]
    · rw [decodeN_g3 _ _ _ _ _ h] at hk ⊢
      have hk : 3 ≤ k := hk
      rw [getD_take l k 1 (by omega), getD_take l k 2 (by omega), decodeN_g3 _ _ _ _ _ ⟨h.1, h.2.1, hk, h.2.2.2⟩]
    · rw [decodeN_g4 _ _ _ _ _ h] at hk ⊢
      have hk : 4 ≤ k := hk
      rw [getD_take l k 1 (by omega), getD_take l k 2 (by omega), getD_take l k 3 (by omega), decodeN_g4 _ _ _ _ _ ⟨h.1, h.2.1, hk, h.2.2.2⟩]
  · rw [decodeN_bad _ _ _ _ _ (gd_lt _ _) (gd_lt _ _) (gd_lt _ _) (gd_lt _ _) hg]
    refine decodeN_bad _ _ _ _ _ (gd_lt _ _) (gd_lt _ _) (gd_lt _ _) (gd_lt _ _) fun h => hg ?_
    rcases h with h | h | h | h
    · exact .inl h
    · rw [getD_take l k 1 (by omega)] at h; exact .inr (.inl ⟨h.1, h.2.1, by omega, h.2.2.2⟩)
    · rw [getD_take l k 1 (by omega), getD_take l k 2 (by omega)] at h; exact .inr (.inr (.inl ⟨h.1, h.2.1, by omega, h.2.2.2⟩))
    · rw [getD_take l k 1 (by omega), getD_take l k 2 (by omega), getD_take l k 3 (by omega)] at h; exact .inr (.inr (.inr ⟨h.1, h.2.1, by omega, h.2.2.2⟩))
/-- A character's bytes behind its first are none of ASCII's. -/
theorem dec_high (l : Bs) (i : Nat) (h1 : 1 ≤ i) (h2 : i < (decodeL l).2) : 128 ≤ (l.getD i 0).toNat ∧ 128 ≤ (l.getD 0 0).toNat := by
  rw [decL_N] at h2
  by_cases hg : goodN l.length (l.getD 0 0).toNat (l.getD 1 0).toNat (l.getD 2 0).toNat (l.getD 3 0).toNat
  · rcases hg with h | h | h | h
    · rw [decodeN_g1 _ _ _ _ _ h] at h2; simp at h2; omega
    · rw [decodeN_g2 _ _ _ _ _ h] at h2
      have h2 : i < 2 := h2
      obtain rfl : i = 1 := by omega
      exact ⟨by omega, by omega⟩
    · rw [decodeN_g3 _ _ _ _ _ h] at h2
      have h2 : i < 3 := h2
      obtain rfl | rfl : i = 1 ∨ i = 2 := by omega
      · exact ⟨by omega, by omega⟩
      · exact ⟨by omega, by omega⟩
    · rw [decodeN_g4 _ _ _ _ _ h] at h2
      have h2 : i < 4 := h2
      obtain rfl | rfl | rfl : i = 1 ∨ i = 2 ∨ i = 3 := by omega
      · exact ⟨by omega, by omega⟩
      · exact ⟨by omega, by omega⟩
      · exact ⟨by omega, by omega⟩
  · rw [decodeN_bad _ _ _ _ _ (gd_lt _ _) (gd_lt _ _) (gd_lt _ _) (gd_lt _ _) hg] at h2; simp at h2; omega
/-- Does a character begin (or all end) at place o? -/
inductive IsB : Bs → Nat → Prop
  | zero (l : Bs) : IsB l 0
  | step (l : Bs) (o : Nat) (h : l ≠ []) (r : IsB (l.drop (decodeL l).2) o) : IsB l ((decodeL l).2 + o)
theorem IsB.le {l : Bs} {o : Nat} (h : IsB l o) : o ≤ l.length := by
  induction h with
  | zero l => exact Nat.zero_le _
  | step l o h r ih => have := decL_le l h; rw [List.length_drop] at ih; omega
theorem IsB.next {l : Bs} {o : Nat} (h : IsB l o) (hne : l.drop o ≠ []) : IsB l (o + (decodeL (l.drop o)).2) := by
  induction h with
  | zero l => have := IsB.step l 0 (by simpa using hne) (IsB.zero _); simpa using this
  | step l o h r ih =>
    rw [← List.drop_drop] at hne ⊢
    have := IsB.step l _ h (ih hne)
    rwa [← Nat.add_assoc] at this
theorem IsB.take {l : Bs} {o : Nat} (h : IsB l o) : ∀ k, o ≤ k → k ≤ l.length → IsB (l.take k) o := by
  induction h with
  | zero l => intro k _ _; exact .zero _
  | step l o h r ih =>
    intro k h1 h2
    have h3 := decL_pos l
    have e := dec_take l k (by omega) h2
    have hne : l.take k ≠ [] := take_ne h (by omega)
    have := ih (k - (decodeL l).2) (by omega) (by rw [List.length_drop]; omega)
    have r2 : IsB ((l.take k).drop (decodeL (l.take k)).2) o := by rw [e, List.drop_take]; exact this
    have r3 := IsB.step _ _ hne r2
    rwa [e] at r3
/-- Characters ahead of such a place, and from it on. -/
theorem IsB.split {l : Bs} {o : Nat} (h : IsB l o) : cnt l = cnt (l.take o) + cnt (l.drop o) := by
  induction h with
  | zero l => simp [cnt_nil]
  | step l o h r ih =>
    have h3 := decL_pos l
    have h4 := r.le
    have h5 := decL_le l h
    rw [List.length_drop] at h4
    have e := dec_take l ((decodeL l).2 + o) (by omega) (by omega)
    have hne : l.take ((decodeL l).2 + o) ≠ [] := take_ne h (by omega)
    rw [cnt_step l h, cnt_step _ hne, e, List.drop_take, ih, List.drop_drop, Nat.add_sub_cancel_left]; omega
theorem cnt_char (l : Bs) (h : l ≠ []) : cnt (l.take (decodeL l).2) = 1 := by
  have h1 := decL_pos l; have h2 := decL_le l h
  have e := dec_take l _ (Nat.le_refl _) h2
  have hne : l.take (decodeL l).2 ≠ [] := take_ne h (by omega)
  rw [cnt_step _ hne, e, List.drop_take, Nat.sub_self, List.take_zero, cnt_nil]

end Go.Proofs.YtdphhmigbbgjmaaGreatDoor
end
section
namespace Go.Proofs.YtdphhmigbbgjmaaGreatDoor
open Go.RowKit Go.Lib

/-- Block b holds these cells and may be written. -/
def Blk (w : World) (b : Nat) (cs : Array Value) (t : TypeId) : Prop := w.heap[b]? = some (.cells cs t (0, 0))
theorem Blk.lt {w : World} {b : Nat} {cs : Array Value} {t : TypeId} (h : Blk w b cs t) : b < w.heap.size := (Array.getElem?_eq_some_iff.1 h).1
theorem Blk.cell {w : World} {b : Nat} {cs : Array Value} {t : TypeId} (h : Blk w b cs t) (o : Nat) : w.cell? ⟨b, o, none⟩ = cs[o]? := by
  unfold Blk at h; simp [World.cell?, h]
theorem Blk.frozen {w : World} {b : Nat} {cs : Array Value} {t : TypeId} (h : Blk w b cs t) (o : Nat) : w.frozen? ⟨b, o, none⟩ = false := by
  unfold Blk at h; simp [World.frozen?, h]
theorem Blk.new (w : World) (cs : Array Value) (t : TypeId) : Blk (w.alloc (.cells cs t)) w.heap.size cs t := by
  show (w.heap.push (.cells cs t))[w.heap.size]? = _
  rw [Array.getElem?_push, if_pos rfl]
theorem Blk.alloc {w : World} {b : Nat} {cs : Array Value} {t : TypeId} (h : Blk w b cs t) (o : Obj) : Blk (w.alloc o) b cs t := by
  unfold Blk; rw [Below.heap_alloc _ _ _ h.lt]; exact h
theorem Blk.drew {w : World} {b : Nat} {cs : Array Value} {t : TypeId} (h : Blk w b cs t) : Blk w.drew b cs t := h
theorem Blk.below {w w' : World} {B b : Nat} {cs : Array Value} {t : TypeId} (h : Blk w b cs t) (hb : Below B w w') (hB : b < B) : Blk w' b cs t := by
  unfold Blk; rw [hb.block b hB]; exact h
theorem Blk.below' {w w' : World} {b : Nat} {cs : Array Value} {t : TypeId} (h : Blk w b cs t) (hb : Below w.heap.size w w') : Blk w' b cs t := h.below hb h.lt
theorem Blk.set {w : World} {b : Nat} {cs : Array Value} {t : TypeId} (h : Blk w b cs t) (o : Nat) (v : Value) : Blk (w.setCell ⟨b, o, none⟩ v) b (cs.setIfInBounds o v) t := by
  unfold Blk at *; simp [World.setCell, Array.getElem?_modify, h]
theorem Blk.other {w : World} {b : Nat} {cs : Array Value} {t : TypeId} (h : Blk w b cs t) (p : Addr) (v : Value) (hp : p.block ≠ b) : Blk (w.setCell p v) b cs t := by
  unfold Blk; rw [Below.heap_setCell _ _ _ _ (Ne.symm hp)]; exact h

/-- What an owned slice looks like. -/
theorem ownsRow_shape {w : World} {B : Nat} {e : TypeId} {sz : Nat} {v : Value} {n : Nat} {xs : List Value} (h : w.ownsRow B e sz v n xs) : ∃ a cap, v = .slice a n cap := by
  rcases h.2 with ⟨rfl, rfl⟩ | ⟨g, cap, cur, rfl, _⟩
  · exact ⟨_, _, rfl⟩
  · exact ⟨_, _, rfl⟩

end Go.Proofs.YtdphhmigbbgjmaaGreatDoor
end
section
namespace Go.Proofs.YtdphhmigbbgjmaaGreatDoor
open Go.RowKit Go.Lib

/-- The slice v is a row of the call's own, from block B on, that holds the bytes l. -/
def Buf (w : World) (B : Nat) (v : Value) (l : List UInt8) : Prop := w.ownsRow B 5 1 v l.length (byteCells l)
/-- It is kept by whatever keeps what lay. -/
theorem Buf.below {w w' : World} {B : Nat} {v : Value} {l : List UInt8} (h : Buf w B v l) (hb : Below w.heap.size w w') : Buf w' B v l := by
  refine ⟨h.1, ?_⟩
  rcases h.2 with h2 | ⟨g, cap, cur, h1, h2, h3, h4⟩
  · exact .inl h2
  · exact .inr ⟨g, cap, cur, h1, h2, (hb.block g (Array.getElem?_eq_some_iff.1 h3).1).trans h3, h4⟩
end Go.Proofs.YtdphhmigbbgjmaaGreatDoor
end
section
namespace Go.Proofs.YtdphhmigbbgjmaaGreatDoor
open Go.RowKit Go.Lib
/-- A text's lines, without their ends. -/
def linesOf : Bs → List Bs
  | [] => [[]]
  | b :: t => if b = 10 then [] :: linesOf t else match linesOf t with
    | [] => [[b]]
    | x :: r => (b :: x) :: r
/-- The first line, and what stands behind. -/
theorem linesOf_run : ∀ (x t : Bs), (∀ b ∈ x, b ≠ 10) → linesOf (x ++ 10 :: t) = x :: linesOf t
  | [], t, _ => by simp [linesOf]
  | b :: x, t, h => by
    have hb : b ≠ 10 := h b (by simp)
    have ih := linesOf_run x t (fun c hc => h c (by simp [hc]))
    rw [List.cons_append, linesOf, if_neg hb, ih]
def getLine (l : Bs) (n : Int) : Option Bs := if n < 1 then none else (linesOf l)[n.toNat - 1]?
def lineV (l : Bs) (n : Int) : Value := match getLine l n with
  | some x => .tuple #[.string ⟨x.toArray⟩, .bool true]
  | none => .tuple #[.string ⟨#[]⟩, .bool false]
theorem extract_list (s : ByteArray) (a b : Nat) : s.extract a b = ⟨((s.data.toList.drop a).take (b - a)).toArray⟩ := by
  apply ByteArray.ext
  simp [ByteArray.data_extract]
  exact Array.toList_inj.1 (by simp)
theorem byteAt_ne (s : ByteArray) (a b : Nat) (_hb : b ≤ s.size) (h : ∀ j, a ≤ j → j < b → byteAt s j ≠ 10) : ∀ c ∈ (s.data.toList.drop a).take (b - a), c ≠ 10 := by
  intro c hc e
  subst e
  obtain ⟨i, hi, he⟩ := List.mem_iff_getElem.1 hc
  rw [List.length_take, List.length_drop, size_len] at hi
  rw [List.getElem_take, List.getElem_drop] at he
  refine h (a + i) (by omega) (by omega) ?_
  unfold byteAt
  rw [List.getD_eq_getElem?_getD, List.getElem?_eq_getElem (by rw [size_len]; omega), Option.getD_some, he]; rfl
theorem lines_nl (s : ByteArray) (a b : Nat) (hab : a ≤ b) (hb : b < s.size) (h : ∀ j, a ≤ j → j < b → byteAt s j ≠ 10) (h10 : byteAt s b = 10) :
    linesOf (s.data.toList.drop a) = (s.data.toList.drop a).take (b - a) :: linesOf (s.data.toList.drop (b + 1)) := by
  have hl : b < s.data.toList.length := by rw [size_len]; exact hb
  have e : s.data.toList.drop a = (s.data.toList.drop a).take (b - a) ++ 10 :: s.data.toList.drop (b + 1) := by
    conv => lhs; rw [← List.take_append_drop (b - a) (s.data.toList.drop a)]
    congr 1
    rw [List.drop_drop, show a + (b - a) = b by omega, List.drop_eq_getElem_cons hl]
    congr 1
    apply UInt8.toNat_inj.1
    unfold byteAt at h10
    rw [List.getD_eq_getElem?_getD, List.getElem?_eq_getElem hl] at h10
    exact h10
  conv => lhs; rw [e]
  exact linesOf_run _ _ (byteAt_ne s a b (by omega) h)
end Go.Proofs.YtdphhmigbbgjmaaGreatDoor
end
section
namespace Go.Proofs.YtdphhmigbbgjmaaGreatDoor
open Go.RowKit Go.Lib

/-- How many line feeds stand among the first i bytes. -/
def nlAt (s : ByteArray) : Nat → Nat
  | 0 => 0
  | i + 1 => if byteAt s i = 10 then nlAt s i + 1 else nlAt s i
/-- Where the line begins in which place i stands. -/
def fromAt (s : ByteArray) : Nat → Nat
  | 0 => 0
  | i + 1 => if byteAt s i = 10 then i + 1 else fromAt s i
theorem nlAt_le (s : ByteArray) : ∀ i, nlAt s i ≤ i
  | 0 => Nat.le_refl _
  | i + 1 => by have := nlAt_le s i; unfold nlAt; split <;> omega
theorem fromAt_le (s : ByteArray) : ∀ i, fromAt s i ≤ i
  | 0 => Nat.le_refl _
  | i + 1 => by have := fromAt_le s i; unfold fromAt; split <;> omega
theorem fromAt_zero (s : ByteArray) : ∀ i, nlAt s i = 0 → fromAt s i = 0
  | 0, _ => rfl
  | i + 1, h => by unfold nlAt at h; unfold fromAt; split at h; omega; rw [if_neg (by assumption)]; exact fromAt_zero s i h
theorem wrap64_add (x y : Int) : wrap64 (wrap64 x + y) = wrap64 (x + y) := by unfold wrap64; omega
def colI (n : Nat) (c : Int) : Int := if n = 0 then c else 1
/-- How many characters the last line has. -/
def tailC (s : ByteArray) : Nat := cnt (s.data.toList.drop (fromAt s s.size))
theorem tailC_le (s : ByteArray) : tailC s ≤ s.size := by
  unfold tailC; have := cnt_le (s.data.toList.drop (fromAt s s.size)); rw [List.length_drop, size_len] at this; omega
/-- The place behind a text, at a place. -/
def advV (a l c : Int) (s : ByteArray) : Value := .agg #[.int .i64 (wrap64 (a + s.size)), .int .i64 (wrap64 (l + nlAt s s.size)), .int .i64 (wrap64 (colI (nlAt s s.size) c + tailC s))]

theorem byteAt_bang (s : ByteArray) (i : Nat) : (s.data[i]!).toNat = byteAt s i := by
  unfold byteAt; rw [getD_get!']; rfl
theorem last_from (s : ByteArray) : ∀ i, Lib.lastIdx s 10 i + 1 = fromAt s i
  | 0 => rfl
  | i + 1 => by
    unfold Lib.lastIdx fromAt
    rw [byteAt_bang]
    by_cases h : byteAt s i = 10
    · rw [if_pos h, if_pos (by omega)]; omega
    · rw [if_neg h, if_neg (by omega)]; exact last_from s i
theorem last_from' (s : ByteArray) : Lib.lastIndexByte s 10 = (fromAt s s.size : Int) - 1 := by
  have := last_from s s.size; unfold Lib.lastIndexByte; omega
theorem count_take (s : ByteArray) : ∀ i, i ≤ s.size → (s.data.toList.take i).count 10 = nlAt s i
  | 0, _ => rfl
  | i + 1, h => by
    have hl : i < s.data.toList.length := by rw [size_len]; exact h
    rw [List.take_succ_eq_append_getElem hl, List.count_append, count_take s i (by omega)]
    have e : (s.data.toList[i]'hl).toNat = byteAt s i := by unfold byteAt; rw [List.getD_eq_getElem?_getD, List.getElem?_eq_getElem hl]; rfl
    rw [nlAt]
    by_cases hb : byteAt s i = 10
    · have : s.data.toList[i]'hl = 10 := UInt8.toNat_inj.1 (by rw [e, hb]; rfl)
      rw [if_pos hb, this]; rfl
    · have : (s.data.toList[i]'hl == 10) = false := by rw [beq_eq_false_iff_ne]; exact fun c => hb (by rw [← e, c]; rfl)
      rw [if_neg hb, List.count_cons, this]; rfl
theorem countByte_nl (s : ByteArray) : Lib.countByte s.data.toList 10 = nlAt s s.size := by
  unfold Lib.countByte; rw [← count_take s s.size (Nat.le_refl _), List.take_of_length_le (by rw [size_len]; exact Nat.le_refl _)]

end Go.Proofs.YtdphhmigbbgjmaaGreatDoor
end
section
namespace Go.Proofs.YtdphhmigbbgjmaaGreatDoor
open Go.RowKit Go.Lib
/-- Lines, with a line feed between each two. -/
def glue : List Bs → Bs
  | [] => []
  | [x] => x
  | x :: y :: r => x ++ 10 :: glue (y :: r)
end Go.Proofs.YtdphhmigbbgjmaaGreatDoor
end
section
namespace Go.Proofs.YtdphhmigbbgjmaaGreatDoor
open Go.RowKit Go.Lib
def colN (s : ByteArray) (o : Nat) : Nat := cnt ((s.data.toList.take o).drop (fromAt s o))
/-- Does a character begin at place o, counted from its line's beginning? -/
def CB (s : ByteArray) (o : Nat) : Prop := o ≤ s.size ∧ IsB (s.data.toList.drop (fromAt s o)) (o - fromAt s o)
theorem CB_zero (s : ByteArray) : CB s 0 := ⟨Nat.zero_le _, .zero _⟩
theorem same_line (s : ByteArray) (a : Nat) : ∀ n, (∀ j, a ≤ j → j < a + n → byteAt s j ≠ 10) → nlAt s (a + n) = nlAt s a ∧ fromAt s (a + n) = fromAt s a
  | 0, _ => ⟨rfl, rfl⟩
  | n + 1, h => by
    have ih := same_line s a n (fun j h1 h2 => h j h1 (by omega))
    have hb := h (a + n) (by omega) (by omega)
    rw [← Nat.add_assoc, nlAt, fromAt, if_neg hb, if_neg hb]; exact ih
theorem byteAt_drop (s : ByteArray) (a j : Nat) : ((s.data.toList.drop a).getD j 0).toNat = byteAt s (a + j) := by
  unfold byteAt; rw [List.getD_eq_getElem?_getD, List.getElem?_drop, ← List.getD_eq_getElem?_getD]
theorem CB_step (s : ByteArray) (o : Nat) (h : CB s o) (ho : o < s.size) : CB s (o + (Utf8.decode s o).2) ∧
    (byteAt s o = 10 → (Utf8.decode s o).2 = 1 ∧ nlAt s (o + (Utf8.decode s o).2) = nlAt s o + 1 ∧ colN s (o + (Utf8.decode s o).2) = 0) ∧
    (byteAt s o ≠ 10 → nlAt s (o + (Utf8.decode s o).2) = nlAt s o ∧ colN s (o + (Utf8.decode s o).2) = colN s o + 1) := by
  have hd := decodeL_drop s o
  have hle := dec_le s o ho
  have hne := drop_ne s o ho
  have hpos := dec_pos s o
  have hfo := fromAt_le s o
  by_cases h10 : byteAt s o = 10
  · have e1 : (Utf8.decode s o).2 = 1 := by rw [dec_at, decodeN_g1 _ _ _ _ _ (by omega)]
    have e2 : fromAt s (o + 1) = o + 1 := by unfold fromAt; rw [if_pos h10]
    rw [e1]
    refine ⟨⟨by omega, by rw [e2, Nat.sub_self]; exact .zero _⟩, fun _ => ⟨rfl, by rw [nlAt, if_pos h10], ?_⟩, fun c => absurd h10 c⟩
    unfold colN; rw [e2, List.drop_eq_nil_of_le (by rw [List.length_take]; omega), cnt_nil]
  · have hno : ∀ j, o ≤ j → j < o + (Utf8.decode s o).2 → byteAt s j ≠ 10 := fun j j1 j2 => by
      by_cases e : j = o
      · subst e; exact h10
      · have := dec_high (s.data.toList.drop o) (j - o) (by omega) (by rw [hd]; omega)
        rw [byteAt_drop, show o + (j - o) = j by omega] at this; omega
    obtain ⟨n1, n2⟩ := same_line s o _ hno
    have hdd : (s.data.toList.drop (fromAt s o)).drop (o - fromAt s o) = s.data.toList.drop o := by rw [List.drop_drop]; congr 1; omega
    have hnext := h.2.next (by rw [hdd]; exact hne)
    rw [hdd, hd] at hnext
    refine ⟨⟨hle, by rw [n2, show o + (Utf8.decode s o).2 - fromAt s o = o - fromAt s o + (Utf8.decode s o).2 by omega]; exact hnext⟩, fun c => absurd c h10, fun _ => ⟨n1, ?_⟩⟩
    unfold colN
    rw [n2, List.drop_take, List.drop_take]
    have hlen : (s.data.toList.drop (fromAt s o)).length = s.size - fromAt s o := by rw [List.length_drop, size_len]
    have hB : IsB ((s.data.toList.drop (fromAt s o)).take (o + (Utf8.decode s o).2 - fromAt s o)) (o - fromAt s o) := h.2.take _ (by omega) (by omega)
    rw [hB.split, List.take_take, Nat.min_eq_left (by omega), List.drop_take, hdd, show o + (Utf8.decode s o).2 - fromAt s o - (o - fromAt s o) = (Utf8.decode s o).2 by omega, ← hd, cnt_char _ hne]
theorem colN_le (s : ByteArray) (o : Nat) : colN s o ≤ o := by
  unfold colN; have := cnt_le ((s.data.toList.take o).drop (fromAt s o)); rw [List.length_drop, List.length_take] at this; omega
end Go.Proofs.YtdphhmigbbgjmaaGreatDoor
end
section
namespace Go.Proofs.YtdphhmigbbgjmaaGreatDoor
def cutS (s : ByteArray) (a b : Nat) : ByteArray := s.extract a b
theorem cutS_in (s : ByteArray) (a b : Nat) : s.extract a b = cutS s a b := rfl
end Go.Proofs.YtdphhmigbbgjmaaGreatDoor
end
