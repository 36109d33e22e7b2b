/- The reference's letters, words, signs: the same as the program's. The reference's tokens end where the program's do. The reference's texts and comments end where the program's do; how its tokens begin. The reference's comments end where the program's do; how its tokens begin and end: the program's. The reference's row of tokens is the plain one. -/
import Derived.Test.YtdphhmigbbgjmaaGreatDoorM4
import Derived.Test.YtdphhmigbbgjmaaGreatDoorPScan
import Derived.Test.YtdphhmigbbgjmaaGreatDoorM5
section
namespace Go.Proofs.YtdphhmigbbgjmaaGreatDoor
open Go.RowKit Go.Lib
open PScan
open Go.Proofs.YtdphhmigbbgjmaaGreatDoorW.PrintWords
set_option linter.unusedVariables false
set_option linter.unusedSimpArgs false
theorem w64' {x : Int} (h1 : -9223372036854775808 ≤ x) (h2 : x ≤ 9223372036854775807) : wrap64 x = x := by unfold wrap64; omega
theorem in_l0 (p : Int) (L : List Int) (hL : L.length < 1000000) : ∀ (d k i : Nat), L.length = i + 2 * d → d < k → colophonref04_in.l0 k p L (i : Int) = some (inPairs p (L.drop i))
  | 0, k, i, h, hk => by
    obtain ⟨k, rfl⟩ : ∃ m, k = m + 1 := ⟨k - 1, by omega⟩
    simp only [colophonref04_in.l0]
    rw [w64' (by omega) (by omega), if_neg (by omega), List.drop_eq_nil_of_le (by omega)]; rfl
  | d + 1, k, i, h, hk => by
    obtain ⟨k, rfl⟩ : ∃ m, k = m + 1 := ⟨k - 1, by omega⟩
    have h1 : i < L.length := by omega
    have h2 : i + 1 < L.length := by omega
    have ih := in_l0 p L hL d k (i + 2) (by omega) (by omega)
    have e1 : rd L (i : Int) = L[i] := by simp [rd, List.getD_eq_getElem?_getD, List.getElem?_eq_getElem h1]
    have e2 : rd L ((i + 1 : Nat) : Int) = L[i + 1] := by unfold rd; rw [Int.toNat_natCast, List.getD_eq_getElem?_getD, List.getElem?_eq_getElem h2]; rfl
    simp only [colophonref04_in.l0]
    rw [w64' (by omega) (by omega), w64' (by omega) (by omega), show (i : Int) + 1 = ((i + 1 : Nat) : Int) by omega, show (i : Int) + 2 = ((i + 2 : Nat) : Int) by omega, if_pos (by omega), if_pos (by omega), if_pos (by omega), e1, e2, ih]
    rw [List.drop_eq_getElem_cons h1, List.drop_eq_getElem_cons h2]
    show _ = some ((decide (L[i] ≤ p) && decide (p ≤ L[i + 1])) || inPairs p (L.drop (i + 2)))
    by_cases c1 : L[i] ≤ p
    · rw [if_pos (show p ≥ L[i] from c1), if_pos (by omega)]
      by_cases c2 : p ≤ L[i + 1]
      · rw [if_pos c2]; simp [c1, c2]
      · rw [if_neg c2]; simp [c1, c2]
    · rw [if_neg (show ¬ p ≥ L[i] from c1)]; simp [c1]
theorem letter04 (p : Int) (k : Nat) (hk : 20 ≤ k) : colophonref04_Letter.f k p = some (ltrB p) := by
  unfold colophonref04_Letter.f colophonref04_in.f
  have := in_l0 p ltrL (by decide) 17 k 0 rfl (by omega)
  rw [show ((0 : Nat) : Int) = 0 from rfl] at this
  show (colophonref04_in.l0 k p ltrL 0).bind _ = _
  rw [this]; rfl
theorem part04 (p : Int) (k : Nat) (hk : 20 ≤ k) : colophonref04_Part.f k p = some (partB p) := by
  unfold colophonref04_Part.f
  rw [letter04 p k hk]
  simp only [Option.bind_some]
  unfold colophonref04_in.f
  have := in_l0 p othL (by decide) 3 k 0 rfl (by omega)
  rw [show ((0 : Nat) : Int) = 0 from rfl] at this
  show (if ltrB p = true then some true else (colophonref04_in.l0 k p othL 0).bind _) = _
  rw [this]
  unfold partB
  cases ltrB p <;> simp
theorem rdOf_at {α : Type} (z : α) (l : List α) (i : Nat) (h : i < l.length) : rdOf z l (i : Int) = l[i] := by
  unfold rdOf; rw [Int.toNat_natCast, List.getD_eq_getElem?_getD, List.getElem?_eq_getElem h]; rfl
theorem toList_inj (a b : ByteArray) : a.toList = b.toList ↔ a = b := by
  rw [Lib.toList_data, Lib.toList_data]
  constructor
  · intro h
    cases a with
    | mk x => cases b with
      | mk y => simp at h; rw [h]
  · intro h; rw [h]
theorem key_l0 (t : ByteArray) (L : List ByteArray) (hL : L.length < 1000000) : ∀ (d k i : Nat), L.length = i + d → d < k → colophonref04_IsKey.l0 k t L (i : Int) = some (Lib.containsS (L.drop i) t)
  | 0, k, i, h, hk => by
    obtain ⟨k, rfl⟩ : ∃ m, k = m + 1 := ⟨k - 1, by omega⟩
    simp only [colophonref04_IsKey.l0]
    rw [if_neg (by omega), List.drop_eq_nil_of_le (by omega)]; rfl
  | d + 1, k, i, h, hk => by
    obtain ⟨k, rfl⟩ : ∃ m, k = m + 1 := ⟨k - 1, by omega⟩
    have h1 : i < L.length := by omega
    have ih := key_l0 t L hL d k (i + 1) (by omega) (by omega)
    simp only [colophonref04_IsKey.l0]
    rw [if_pos (by omega), if_pos (by omega), w64' (by omega) (by omega), show (i : Int) + 1 = ((i + 1 : Nat) : Int) by omega, ih, rdOf_at _ _ _ h1, List.drop_eq_getElem_cons h1]
    by_cases c : L[i].toList = t.toList
    · rw [if_pos c, (Lib.containsS_iff _ _).2 (by rw [(toList_inj _ _).1 c]; exact List.mem_cons_self)]
    · rw [if_neg c]
      have c' : ¬ t = L[i] := fun e => c (by rw [e])
      congr 1
      rw [Bool.eq_iff_iff, Lib.containsS_iff, Lib.containsS_iff, List.mem_cons]
      exact ⟨.inr, fun h => h.resolve_left c'⟩
theorem key04 (t : ByteArray) (k : Nat) (hk : 30 ≤ k) : colophonref04_IsKey.f k t = some (keyB t) := by
  unfold colophonref04_IsKey.f colophonref04_Keys.f
  simp only [Option.bind_some]
  have := key_l0 t keysL (by decide) 24 k 0 rfl (by omega)
  rw [show ((0 : Nat) : Int) = 0 from rfl, List.drop_zero] at this
  exact this
def sgsR : List ByteArray := [⟨#[58, 61]⟩, ⟨#[46, 46]⟩, ⟨#[60, 61]⟩, ⟨#[62, 61]⟩, ⟨#[59]⟩, ⟨#[46]⟩, ⟨#[44]⟩, ⟨#[58]⟩, ⟨#[61]⟩, ⟨#[35]⟩, ⟨#[60]⟩, ⟨#[62]⟩, ⟨#[40]⟩, ⟨#[41]⟩, ⟨#[91]⟩, ⟨#[93]⟩, ⟨#[43]⟩, ⟨#[45]⟩, ⟨#[42]⟩, ⟨#[47]⟩, ⟨#[37]⟩]
/-- The first of some that a text begins with. -/
def firstP (l : Bs) : List ByteArray → ByteArray
  | [] => ⟨#[]⟩
  | p :: r => if Lib.hasPrefix l p.data.toList = true then p else firstP l r
theorem sign_l0 (s : ByteArray) (a : Nat) (ha : a ≤ s.size) (hs : s.size < 1099511627776) (L : List ByteArray) (hL : L.length < 1000000) (hm : ∀ p ∈ L, p.size ≤ 2) : ∀ (d k i : Nat), L.length = i + d → d < k → colophonref04_Sign.l0 k s (a : Int) L (i : Int) = some (firstP (s.data.toList.drop a) (L.drop i))
  | 0, k, i, h, hk => by
    obtain ⟨k, rfl⟩ : ∃ m, k = m + 1 := ⟨k - 1, by omega⟩
    simp only [colophonref04_Sign.l0]
    rw [if_neg (by omega), show L.drop i = [] from List.drop_eq_nil_of_le (by omega)]; rfl
  | d + 1, k, i, h, hk => by
    obtain ⟨k, rfl⟩ : ∃ m, k = m + 1 := ⟨k - 1, by omega⟩
    have h1 : i < L.length := by omega
    have ih := sign_l0 s a ha hs L hL hm d k (i + 1) (by omega) (by omega)
    have hp := hm L[i] (List.getElem_mem h1)
    have hpre : ∀ p : ByteArray, Lib.hasPrefix (s.data.toList.drop a) p.data.toList = true ↔ a + p.size ≤ s.size ∧ (cutS s a (a + p.size)).toList = p.toList := fun p => by
      unfold Lib.hasPrefix
      rw [Lib.toList_data, Lib.toList_data, cut_list, List.isPrefixOf_iff_prefix, List.prefix_iff_eq_take, ← size_len p, Nat.add_sub_cancel_left]
      constructor
      · intro h
        have := congrArg List.length h
        rw [List.length_take, List.length_drop, size_len, size_len] at this
        exact ⟨by rw [size_len]; omega, h.symm⟩
      · intro h; exact h.2.symm
    simp only [colophonref04_Sign.l0]
    rw [if_pos (by omega), if_pos (by omega), rdOf_at _ _ _ h1]
    have e1 : wrap64 ((s.size : Int) - (a : Int)) = ((s.size - a : Nat) : Int) := by rw [w64' (by omega) (by omega)]; omega
    have e2 : wrap64 ((a : Int) + (L[i].size : Int)) = ((a + L[i].size : Nat) : Int) := by rw [w64' (by omega) (by omega)]; omega
    have e3 : wrap64 ((i : Int) + 1) = ((i + 1 : Nat) : Int) := by rw [w64' (by omega) (by omega)]; omega
    rw [e1, e2, e3, ih, List.drop_eq_getElem_cons h1]
    simp only [Int.toNat_natCast]
    show _ = some (if Lib.hasPrefix (s.data.toList.drop a) L[i].data.toList = true then L[i] else firstP (s.data.toList.drop a) (L.drop (i + 1)))
    by_cases c1 : a + L[i].size ≤ s.size
    · rw [if_pos (by omega), if_pos (by omega), if_pos (by omega), if_pos (by omega)]
      by_cases c2 : (cutS s a (a + L[i].size)).toList = L[i].toList
      · rw [if_pos c2, if_pos ((hpre _).2 ⟨c1, c2⟩)]
      · rw [if_neg c2, if_neg (fun h => c2 ((hpre _).1 h).2)]
    · rw [if_neg (by omega), if_neg (fun h => c1 ((hpre _).1 h).1)]
theorem idx_mem (c : UInt8) : ∀ l : Bs, (0 ≤ Lib.indexByte l c ↔ c ∈ l)
  | [] => by simp [Lib.indexByte]
  | x :: r => by
    have ih := idx_mem c r
    have hlo : ∀ l : Bs, -1 ≤ Lib.indexByte l c := fun l => by
      induction l with
      | nil => simp [Lib.indexByte]
      | cons y q hq => unfold Lib.indexByte; split; · omega
                       · split <;> omega
    unfold Lib.indexByte
    by_cases h : x = c
    · subst h; simp
    · rw [if_neg (by simpa using h)]
      by_cases h2 : Lib.indexByte r c = -1
      · rw [if_pos (by simpa using h2)]
        have : ¬ c ∈ r := fun hm => by have := ih.2 hm; omega
        simp [this, Ne.symm h]
      · rw [if_neg (by simpa using h2)]
        have h3 := hlo r
        have : c ∈ r := ih.1 (by omega)
        simp [this]; omega
theorem first_singles (c : UInt8) (t : Bs) : ∀ L : Bs, firstP (c :: t) (L.map fun x => ⟨#[x]⟩) = if c ∈ L then ⟨#[c]⟩ else ⟨#[]⟩
  | [] => by simp [firstP]
  | x :: r => by
    have ih := first_singles c t r
    rw [List.map_cons]
    unfold firstP
    rw [ih]
    by_cases h : x = c
    · subst h; simp [Lib.hasPrefix]
    · have : ¬ Lib.hasPrefix (c :: t) (ByteArray.mk #[x]).data.toList = true := by simp [Lib.hasPrefix]; exact h
      rw [if_neg this]
      simp [Ne.symm h]
theorem first_sign (l : Bs) : firstP l sgsR = ⟨(signL l).toArray⟩ := by
  have e : sgsR = ⟨#[58, 61]⟩ :: ⟨#[46, 46]⟩ :: ⟨#[60, 61]⟩ :: ⟨#[62, 61]⟩ :: sgsL.map (fun x => ⟨#[x]⟩) := rfl
  rw [e]
  simp only [firstP]
  unfold signL
  by_cases p1 : Lib.hasPrefix l [58, 61] = true
  · rw [if_pos p1, if_pos p1]
  rw [if_neg p1, if_neg p1]
  by_cases p2 : Lib.hasPrefix l [46, 46] = true
  · rw [if_pos p2, if_pos p2]
  rw [if_neg p2, if_neg p2]
  by_cases p3 : Lib.hasPrefix l [60, 61] = true
  · rw [if_pos p3, if_pos p3]
  rw [if_neg p3, if_neg p3]
  by_cases p4 : Lib.hasPrefix l [62, 61] = true
  · rw [if_pos p4, if_pos p4]
  rw [if_neg p4, if_neg p4]
  cases l with
  | nil => rfl
  | cons c t =>
    rw [first_singles]
    simp only
    by_cases h : c ∈ sgsL
    · rw [if_pos h, if_pos ((idx_mem c sgsL).2 h)]
    · rw [if_neg h, if_neg (fun h2 => h ((idx_mem c sgsL).1 h2))]
theorem sign04 (s : ByteArray) (a : Nat) (ha : a < s.size) (hs : s.size < 1099511627776) (k : Nat) (hk : 30 ≤ k) : colophonref04_Sign.f k s (a : Int) = some ⟨(signL (s.data.toList.drop a)).toArray⟩ := by
  obtain ⟨k, rfl⟩ : ∃ m, k = m + 1 := ⟨k - 1, by omega⟩
  unfold colophonref04_Sign.f
  rw [if_neg (by omega), show decide ((a : Int) ≥ (s.size : Int)) = false by simp; omega]
  simp only [colophonref04_Sign.j0]
  rw [if_neg (by simp)]
  unfold colophonref04_Signs.f
  simp only [Option.bind_some]
  have := sign_l0 s a (by omega) hs sgsR (by decide) (by decide) 21 k 0 rfl (by omega)
  rw [List.drop_zero, first_sign] at this
  exact this
end Go.Proofs.YtdphhmigbbgjmaaGreatDoor
end
section
namespace Go.Proofs.YtdphhmigbbgjmaaGreatDoor
open Go.RowKit Go.Lib
open PScan
open Go.Proofs.YtdphhmigbbgjmaaGreatDoorW.PrintWords
set_option linter.unusedVariables false
set_option linter.unusedSimpArgs false
theorem next01 (s : ByteArray) (e : Nat) (h : e < s.size) (hs : s.size < 1099511627776) : colophonref01_Next.f s (e : Int) = some (pOf s e, ((nOf s e : Nat) : Int), gOf s e) := by
  unfold colophonref01_Next.f
  rw [if_pos (by omega)]
  have := nxT_bd s e
  have h2 : (nxT s e).2.1 = ((nOf s e : Nat) : Int) := by unfold nOf; omega
  rw [← h2]; rfl
theorem digit10 (c : Int) : colophonref10_digit.f c = some (decide (48 ≤ c) && decide (c ≤ 57)) := by
  unfold colophonref10_digit.f
  by_cases h : 48 ≤ c
  · rw [if_pos h]; simp [h]
  · rw [if_neg h]; simp [h]
theorem control10 (p : Int) (g : Bool) : colophonref10_control.f p g = some (g && (decide (p < 32) || decide (p = 127))) := by
  unfold colophonref10_control.f
  cases g
  · rfl
  · rw [if_pos rfl]
    by_cases h1 : p < 32
    · rw [if_pos h1]; simp [h1]
    · rw [if_neg h1]
      by_cases h2 : p = 127
      · subst h2; rfl
      · simp [h1, h2]
theorem dig_iff (s : ByteArray) (e : Nat) (h : e < s.size) : (48 ≤ pOf s e ∧ pOf s e ≤ 57) ↔ (48 ≤ byteAt s e ∧ byteAt s e ≤ 57) := by
  constructor
  · intro ⟨h1, h2⟩
    have := (low_char s e h (char_low s e h (by omega))).2.1; omega
  · intro ⟨h1, h2⟩
    have := (low_char s e h (by omega)).2.1; omega
def two (r : Int × Int × Int) : Int × Int := (r.2.1, r.2.2)
theorem row_nm (s : ByteArray) (hs : s.size < 1099511627776) (a : Nat) (ha : a ≤ s.size) : ∀ (d K e : Nat), s.size < e + d → 30 + 3 * d ≤ K → a ≤ e → e ≤ s.size → colophonref10_row.l0 K s (a : Int) 1 (e : Int) = some (two (nmGo s a d e))
  | 0, K, e, h, _, _, h3 => by omega
  | d + 1, K, e, h, hK, h2, h3 => by
    obtain ⟨K, rfl⟩ : ∃ m, K = m + 3 := ⟨K - 3, by omega⟩
    have j2 : ∀ (n : Nat) (b : Bool), n ≤ 4 → colophonref10_row.j2 (K + 1) s (a : Int) 1 (e : Int) (n : Int) b = if b = true then some ((e : Int), 0) else if 65535 + a < e + n then some ((a : Int), 103) else colophonref10_row.l0 K s (a : Int) 1 ((e + n : Nat) : Int) := fun n b hn => by
      simp only [colophonref10_row.j2]
      have e1 : wrap64 ((e : Int) + (n : Int)) = ((e + n : Nat) : Int) := by rw [w64' (by omega) (by omega)]; omega
      have e2 : wrap64 (((e + n : Nat) : Int) - (a : Int)) = ((e + n - a : Nat) : Int) := by rw [w64' (by omega) (by omega)]; omega
      rw [e1, e2]
      cases b
      · simp only [Bool.false_eq_true, ↓reduceIte]
        by_cases c : 65535 + a < e + n
        · rw [if_pos (by omega), if_pos c]
        · rw [if_neg (by omega), if_neg c]
      · simp only [↓reduceIte]
    have j1 : ∀ (n : Nat) (b : Bool), n ≤ 4 → colophonref10_row.j1 (K + 2) s (a : Int) 1 (e : Int) (n : Int) b = if b = false then some ((e : Int), 0) else if 65535 + a < e + n then some ((a : Int), 103) else colophonref10_row.l0 K s (a : Int) 1 ((e + n : Nat) : Int) := fun n b hn => by
      cases b <;> simp [colophonref10_row.j1, j2 n _ hn]
    rw [show K + 3 = (K + 2) + 1 from rfl]
    rw [colophonref10_row.l0]
    unfold nmGo
    by_cases c0 : e < s.size
    · have hn := nOf_bd s e c0
      rw [if_pos (by omega), next01 s e c0 hs]
      simp only [Option.bind_some]
      rw [part04 _ _ (by omega)]
      simp only [Option.bind_some]
      rw [j1 _ _ hn.2.1, j1 _ _ hn.2.1]
      cases hg : gOf s e
      · simp only [Bool.false_eq_true, ↓reduceIte, false_and, and_false]
        split <;> rfl
      · cases hp : partB (pOf s e)
        · simp only [Bool.false_eq_true, ↓reduceIte, and_false]
          split <;> rfl
        · simp only [↓reduceIte, Bool.true_eq_false, c0, and_self]
          by_cases c : 65535 + a < e + nOf s e
          · rw [if_pos c, if_pos c]; rfl
          · rw [if_neg c, if_neg c]
            exact row_nm s hs a ha d K (e + nOf s e) (by omega) (by omega) (by omega) hn.2.2
    · rw [if_neg (by omega), if_neg (fun h => c0 h.1)]
      split <;> rfl
theorem row_nb (s : ByteArray) (hs : s.size < 1099511627776) (a : Nat) (ha : a ≤ s.size) : ∀ (d K e : Nat), s.size < e + d → 30 + 3 * d ≤ K → a ≤ e → e ≤ s.size → colophonref10_row.l0 K s (a : Int) 3 (e : Int) = some (two (nbGo s a d e))
  | 0, K, e, h, _, _, h3 => by omega
  | d + 1, K, e, h, hK, h2, h3 => by
    obtain ⟨K, rfl⟩ : ∃ m, K = m + 3 := ⟨K - 3, by omega⟩
    have j2 : ∀ (n : Nat) (b : Bool), n ≤ 4 → colophonref10_row.j2 (K + 1) s (a : Int) 3 (e : Int) (n : Int) b = if b = true then some ((e : Int), 0) else if 65535 + a < e + n then some ((a : Int), 103) else colophonref10_row.l0 K s (a : Int) 3 ((e + n : Nat) : Int) := fun n b hn => by
      simp only [colophonref10_row.j2]
      have e1 : wrap64 ((e : Int) + (n : Int)) = ((e + n : Nat) : Int) := by rw [w64' (by omega) (by omega)]; omega
      have e2 : wrap64 (((e + n : Nat) : Int) - (a : Int)) = ((e + n - a : Nat) : Int) := by rw [w64' (by omega) (by omega)]; omega
      rw [e1, e2]
      cases b
      · simp only [Bool.false_eq_true, ↓reduceIte]
        by_cases c : 65535 + a < e + n
        · rw [if_pos (by omega), if_pos c]
        · rw [if_neg (by omega), if_neg c]
      · simp only [↓reduceIte]
    rw [show K + 3 = (K + 2) + 1 from rfl]
    rw [colophonref10_row.l0]
    unfold nbGo
    by_cases c0 : e < s.size
    · have hn := nOf_bd s e c0
      have j1 : ∀ (b : Bool), colophonref10_row.j1 (K + 2) s (a : Int) 3 (e : Int) ((nOf s e : Nat) : Int) b = if ¬ (48 ≤ pOf s e ∧ pOf s e ≤ 57) then some ((e : Int), 0) else if 65535 + a < e + nOf s e then some ((a : Int), 103) else colophonref10_row.l0 K s (a : Int) 3 ((e + nOf s e : Nat) : Int) := fun b => by
        simp only [colophonref10_row.j1]
        rw [if_neg (by decide), if_pos trivial, if_pos (by omega), if_pos (by omega), bt_byte s e c0, digit10]
        simp only [Option.bind_some]
        rw [j2 _ _ hn.2.1]
        have := dig_iff s e c0
        by_cases c : 48 ≤ byteAt s e ∧ byteAt s e ≤ 57
        · rw [if_neg (show ¬ ((!(decide (48 ≤ ((byteAt s e : Nat) : Int)) && decide (((byteAt s e : Nat) : Int) ≤ 57))) = true) by simp; omega), if_neg (show ¬ ¬ (48 ≤ pOf s e ∧ pOf s e ≤ 57) from fun h => h (this.2 c))]
        · rw [if_pos (show (!(decide (48 ≤ ((byteAt s e : Nat) : Int)) && decide (((byteAt s e : Nat) : Int) ≤ 57))) = true by simp; omega), if_pos (show ¬ (48 ≤ pOf s e ∧ pOf s e ≤ 57) from fun h => c (this.1 h))]
      rw [if_pos (by omega), next01 s e c0 hs]
      simp only [Option.bind_some]
      rw [part04 _ _ (by omega)]
      simp only [Option.bind_some]
      rw [j1, j1, ite_self]
      by_cases c : 48 ≤ pOf s e ∧ pOf s e ≤ 57
      · rw [if_neg (fun h => h c), if_pos (show e < s.size ∧ 48 ≤ pOf s e ∧ pOf s e ≤ 57 from ⟨c0, c⟩)]
        by_cases c2 : 65535 + a < e + nOf s e
        · rw [if_pos c2, if_pos c2]; rfl
        · rw [if_neg c2, if_neg c2]
          exact row_nb s hs a ha d K (e + nOf s e) (by omega) (by omega) (by omega) hn.2.2
      · rw [if_pos c, if_neg (show ¬ (e < s.size ∧ 48 ≤ pOf s e ∧ pOf s e ≤ 57) from fun h => c h.2)]; rfl
    · rw [if_neg (by omega), if_neg (fun h => c0 h.1)]; rfl
end Go.Proofs.YtdphhmigbbgjmaaGreatDoor
end
section
namespace Go.Proofs.YtdphhmigbbgjmaaGreatDoor
open Go.RowKit Go.Lib
open PScan
open Go.Proofs.YtdphhmigbbgjmaaGreatDoorW.PrintWords
set_option linter.unusedVariables false
set_option linter.unusedSimpArgs false
theorem quoted_text (s : ByteArray) (hs : s.size < 1099511627776) (a : Nat) (ha : a ≤ s.size) (d : Nat) : ∀ (K e : Nat) (many : Int), s.size < e + d → 30 + 3 * d ≤ K → a ≤ e → e ≤ s.size → colophonref10_quoted.l0 K s (a : Int) 34 false (e : Int) many = some (two (qtGo s a d e)) := by
  induction d with
  | zero => intro K e many h _ _ h3; omega
  | succ d IH =>
    intro K e many h hK h2 h3
    obtain ⟨K, rfl⟩ : ∃ m, K = m + 3 := ⟨K - 3, by omega⟩
    have j1f : colophonref10_quoted.j1 (K + 2) s (a : Int) 34 false (e : Int) many false = some ((a : Int), 101) := by simp [colophonref10_quoted.j1]
    rw [show K + 3 = (K + 2) + 1 from rfl, colophonref10_quoted.l0]
    unfold qtGo
    by_cases c0 : e < s.size
    · have hn := nOf_bd s e c0
      have h10 := Lib.hid (char_is s e c0 10 (by omega))
      have h34 := Lib.hid (char_is s e c0 34 (by omega))
      rw [if_pos (by omega), if_pos (by omega), bt_byte s e c0]
      by_cases c1 : pOf s e = 10
      · rw [show ((((byteAt s e : Nat) : Int)) != 10) = false by simp; have := h10.out.1 c1; omega, j1f, if_pos (show ¬ e < s.size ∨ pOf s e = 10 from .inr c1)]; rfl
      · have hb : byteAt s e ≠ 10 := fun h => c1 (h10.out.2 h)
        rw [show ((((byteAt s e : Nat) : Int)) != 10) = true by simp; omega, if_neg (show ¬ (¬ e < s.size ∨ pOf s e = 10) from fun h => h.elim (fun h => h c0) c1)]
        have ih := IH K (e + nOf s e) (wrap64 (many + 1)) (by omega) (by omega) (by omega) hn.2.2
        have e1 : Hid (wrap64 ((e : Int) + ((nOf s e : Nat) : Int)) = ((e + nOf s e : Nat) : Int)) := Lib.hid (by rw [w64' (by omega) (by omega)]; omega)
        have e2 : Hid (wrap64 (((e + nOf s e : Nat) : Int) - (a : Int)) = ((e + nOf s e - a : Nat) : Int)) := Lib.hid (by rw [w64' (by omega) (by omega)]; omega)
        have e3 : Hid (wrap64 ((e : Int) + 1) = ((e + 1 : Nat) : Int)) := Lib.hid (by rw [w64' (by omega) (by omega)]; omega)
        have hct : ctlB s e = (gOf s e && (decide (pOf s e < 32) || decide (pOf s e = 127))) := rfl
        have j2 : ∀ b : Bool, colophonref10_quoted.j2 (K + 1) s (a : Int) 34 false (e : Int) many (pOf s e) ((nOf s e : Nat) : Int) (gOf s e) b = if 65535 + a < e + nOf s e then some ((a : Int), 103) else if b = true then some (((e + 1 : Nat) : Int), 0) else if ctlB s e = true then some ((e : Int), 102) else some (two (qtGo s a d (e + nOf s e))) := fun b => by
          simp only [colophonref10_quoted.j2]
          rw [control10, Option.bind_some]
          rw [e1.out, e2.out, e3.out, ih, ← hct]
          by_cases c : 65535 + a < e + nOf s e
          · rw [if_pos (by omega), if_pos c]
          · rw [if_neg (by omega), if_neg c]
            simp
        simp only [colophonref10_quoted.j1, ↓reduceIte]
        rw [next01 s e c0 hs, Option.bind_some]
        simp only [Bool.false_eq_true, ↓reduceIte]
        rw [if_pos (by omega), if_pos (by omega), bt_byte s e c0, j2, j2]
        by_cases c2 : 65535 + a < e + nOf s e
        · rw [if_pos c2, if_pos c2, if_pos c2, ite_self]; rfl
        · rw [if_neg c2, if_neg c2, if_neg c2]
          by_cases c3 : pOf s e = 34
          · have hb34 := h34.out.1 c3
            have hlow := low_char s e c0 (by omega)
            rw [if_pos (show ((byteAt s e : Nat) : Int) = 34 by omega), if_pos rfl, if_neg (show ¬ ctlB s e = true by rw [hct, c3]; simp), if_pos c3, hlow.1]; rfl
          · rw [if_neg (show ¬ ((byteAt s e : Nat) : Int) = 34 from fun h => c3 (h34.out.2 (by omega))), if_neg (by simp)]
            by_cases c4 : ctlB s e = true
            · rw [if_pos c4, if_pos c4]; rfl
            · rw [if_neg c4, if_neg c4, if_neg c3]
    · rw [if_neg (by omega), j1f, if_pos (show ¬ e < s.size ∨ pOf s e = 10 from .inl c0)]; rfl
theorem quoted_char (s : ByteArray) (hs : s.size < 1099511627776) (a b : Nat) (hab : b = a + 1) (hb : b ≤ s.size) (K : Nat) (hK : 40 ≤ K) : colophonref10_quoted.l0 K s (a : Int) 39 true (b : Int) 0 = some (two (sgV s a b)) := by
  obtain ⟨K, rfl⟩ : ∃ m, K = m + 6 := ⟨K - 6, by omega⟩
  have j1f : ∀ (K' : Nat) (e : Int) (many : Int), colophonref10_quoted.j1 (K' + 1) s (a : Int) 39 true e many false = some ((a : Int), 101) := fun K' e many => by simp [colophonref10_quoted.j1]
  -- one round
  have round : ∀ (K' e : Nat) (many : Int) (hm : many = 0 ∨ many = 1) (c0 : e < s.size) (hae : a ≤ e) (hlong : e + nOf s e ≤ a + 65535), colophonref10_quoted.l0 (K' + 3) s (a : Int) 39 true (e : Int) many = if pOf s e = 10 then some ((a : Int), 101) else if pOf s e = 39 ∧ many = 1 then some (((e + 1 : Nat) : Int), 0) else if ctlB s e = true ∨ many = 1 ∨ pOf s e = 39 then some ((e : Int), 102) else colophonref10_quoted.l0 K' s (a : Int) 39 true ((e + nOf s e : Nat) : Int) (many + 1) := fun K' e many hm c0 hae hlong => by
    have hn := nOf_bd s e c0
    have h10 := Lib.hid (char_is s e c0 10 (by omega))
    have h39 := Lib.hid (char_is s e c0 39 (by omega))
    have e1 : Hid (wrap64 ((e : Int) + ((nOf s e : Nat) : Int)) = ((e + nOf s e : Nat) : Int)) := Lib.hid (by rw [w64' (by omega) (by omega)]; omega)
    have e2 : Hid (wrap64 (((e + nOf s e : Nat) : Int) - (a : Int)) = ((e + nOf s e - a : Nat) : Int)) := Lib.hid (by rw [w64' (by omega) (by omega)]; omega)
    have e3 : Hid (wrap64 ((e : Int) + 1) = ((e + 1 : Nat) : Int)) := Lib.hid (by rw [w64' (by omega) (by omega)]; omega)
    have e4 : Hid (wrap64 (many + 1) = many + 1) := Lib.hid (w64' (by omega) (by omega))
    have hct : ctlB s e = (gOf s e && (decide (pOf s e < 32) || decide (pOf s e = 127))) := rfl
    rw [show K' + 3 = (K' + 2) + 1 from rfl, colophonref10_quoted.l0, if_pos (by omega), if_pos (by omega), bt_byte s e c0]
    by_cases c1 : pOf s e = 10
    · rw [show ((((byteAt s e : Nat) : Int)) != 10) = false by simp; have := h10.out.1 c1; omega, j1f, if_pos c1]
    · have hb : byteAt s e ≠ 10 := fun h => c1 (h10.out.2 h)
      rw [show ((((byteAt s e : Nat) : Int)) != 10) = true by simp; omega, if_neg c1]
      have j2 : ∀ b : Bool, colophonref10_quoted.j2 (K' + 1) s (a : Int) 39 true (e : Int) many (pOf s e) ((nOf s e : Nat) : Int) (gOf s e) b = if b = true then some (((e + 1 : Nat) : Int), 0) else if ctlB s e = true then some ((e : Int), 102) else if many = 1 then some ((e : Int), 102) else if byteAt s e = 39 then some ((e : Int), 102) else colophonref10_quoted.l0 K' s (a : Int) 39 true ((e + nOf s e : Nat) : Int) (many + 1) := fun b => by
        simp only [colophonref10_quoted.j2]
        rw [control10, Option.bind_some]
        simp only [↓reduceIte]
        rw [e1.out, e2.out, e3.out, e4.out, ← hct, bt_byte s e c0, if_neg (by omega)]
        rw [if_pos (show (0 : Int) ≤ (e : Int) by omega), if_pos (show (e : Int) < (s.size : Int) by omega)]
        by_cases q : byteAt s e = 39
        · rw [if_pos (show ((byteAt s e : Nat) : Int) = 39 by omega), if_pos q]
        · rw [if_neg (show ¬ ((byteAt s e : Nat) : Int) = 39 by omega), if_neg q]
      simp only [colophonref10_quoted.j1, ↓reduceIte]
      rw [next01 s e c0 hs, Option.bind_some]
      simp only [↓reduceIte]
      rw [if_pos (show (0 : Int) ≤ (e : Int) by omega), if_pos (show (e : Int) < (s.size : Int) by omega), bt_byte s e c0, j2, j2]
      by_cases c3 : pOf s e = 39
      · have hb39 := h39.out.1 c3
        rw [if_pos (show ((byteAt s e : Nat) : Int) = 39 by omega), if_pos hb39]
        rcases hm with rfl | rfl
        · simp [c3]
        · simp [c3]
      · have hb39 : ¬ byteAt s e = 39 := fun h => c3 (h39.out.2 h)
        rw [if_neg (show ¬ ((byteAt s e : Nat) : Int) = 39 by omega), if_neg hb39]
        rcases hm with rfl | rfl
        · simp [c3]
        · simp [c3]
  have stop : ∀ (K' e : Nat) (many : Int), s.size ≤ e → colophonref10_quoted.l0 (K' + 2) s (a : Int) 39 true (e : Int) many = some ((a : Int), 101) := fun K' e many he => by
    rw [show K' + 2 = (K' + 1) + 1 from rfl, colophonref10_quoted.l0, if_neg (by omega), j1f]
  unfold sgV
  by_cases c0 : b < s.size
  · have hn := nOf_bd s b c0
    rw [show K + 6 = (K + 3) + 3 from rfl, round (K + 3) b 0 (.inl rfl) c0 (by omega) (by omega)]
    by_cases c1 : pOf s b = 10
    · rw [if_pos c1, if_pos (show ¬ b < s.size ∨ pOf s b = 10 from .inr c1)]; rfl
    rw [if_neg c1, if_neg (show ¬ (¬ b < s.size ∨ pOf s b = 10) from fun h => h.elim (fun h => h c0) c1), if_neg (by simp)]
    by_cases c2 : pOf s b = 39 ∨ ctlB s b = true
    · have c2' : ctlB s b = true ∨ (0 : Int) = 1 ∨ pOf s b = 39 := by
        rcases c2 with h | h
        · exact .inr (.inr h)
        · exact .inl h
      rw [if_pos c2', if_pos c2]; rfl
    have c2' : ¬ (ctlB s b = true ∨ (0 : Int) = 1 ∨ pOf s b = 39) := fun h => by
      rcases h with h | h | h
      · exact c2 (.inr h)
      · exact absurd h (by decide)
      · exact c2 (.inl h)
    rw [if_neg c2', if_neg c2]
    by_cases c3 : b + nOf s b < s.size
    · have hn2 := nOf_bd s _ c3
      rw [round K (b + nOf s b) (0 + 1) (.inr rfl) c3 (by omega) (by omega)]
      have h39 := Lib.hid (char_is s _ c3 39 (by omega))
      by_cases c4 : pOf s (b + nOf s b) = 10
      · rw [if_pos c4, if_pos (show ¬ b + nOf s b < s.size ∨ pOf s (b + nOf s b) = 10 from .inr c4)]; rfl
      rw [if_neg c4, if_neg (show ¬ (¬ b + nOf s b < s.size ∨ pOf s (b + nOf s b) = 10) from fun h => h.elim (fun h => h c3) c4)]
      by_cases c5 : pOf s (b + nOf s b) = 39
      · have hb := h39.out.1 c5
        rw [if_pos ⟨c5, rfl⟩, if_pos c5, (low_char s _ c3 (by omega)).1]; rfl
      · rw [if_neg (fun h => c5 h.1), if_pos (.inr (.inl rfl)), if_neg c5]; rfl
    · rw [show K + 3 = (K + 1) + 2 from rfl, stop (K + 1) _ _ (by omega), if_pos (show ¬ b + nOf s b < s.size ∨ pOf s (b + nOf s b) = 10 from .inl c3)]; rfl
  · rw [show K + 6 = (K + 4) + 2 from rfl, stop _ _ _ (by omega), if_pos (show ¬ b < s.size ∨ pOf s b = 10 from .inl c0)]; rfl
end Go.Proofs.YtdphhmigbbgjmaaGreatDoor
end
section
namespace Go.Proofs.YtdphhmigbbgjmaaGreatDoor
open Go.RowKit Go.Lib
open PScan
open Go.Proofs.YtdphhmigbbgjmaaGreatDoorW.PrintWords
set_option linter.unusedVariables false
set_option linter.unusedSimpArgs false
/-- One byte of a comment. -/
theorem cm_byte (s : ByteArray) (hs : s.size < 1099511627776) (a : Nat) (ha : a ≤ s.size) (blk : Bool) (K e : Nat) (h2 : a ≤ e) (c0 : e < s.size) :
    colophonref10_comment.l0 (K + 2) s (a : Int) blk (e : Int) = if blk = false ∧ byteAt s e = 10 then some ((e : Int), 0) else if 65535 + a < e + 1 then some ((a : Int), 103) else if blk = true ∧ byteAt s e = 125 then some (((e + 1 : Nat) : Int), 0) else colophonref10_comment.l0 K s (a : Int) blk ((e + 1 : Nat) : Int) := by
  have e1 : Hid (wrap64 ((e : Int) + 1) = ((e + 1 : Nat) : Int)) := Lib.hid (by rw [w64' (by omega) (by omega)]; omega)
  have e2 : Hid (wrap64 (((e + 1 : Nat) : Int) - (a : Int)) = ((e + 1 - a : Nat) : Int)) := Lib.hid (by rw [w64' (by omega) (by omega)]; omega)
  have j1 : ∀ b : Bool, colophonref10_comment.j1 (K + 1) s (a : Int) blk (e : Int) b = if b = true then some ((e : Int), 0) else if 65535 + a < e + 1 then some ((a : Int), 103) else if blk = true ∧ byteAt s e = 125 then some (((e + 1 : Nat) : Int), 0) else colophonref10_comment.l0 K s (a : Int) blk ((e + 1 : Nat) : Int) := fun b => by
    rw [colophonref10_comment.j1, e1.out, e2.out, bt_byte s e c0, if_pos (show (0 : Int) ≤ (e : Int) by omega), if_pos (show (e : Int) < (s.size : Int) by omega)]
    cases b
    · simp only [Bool.false_eq_true, ↓reduceIte]
      by_cases c : 65535 + a < e + 1
      · rw [if_pos (by omega), if_pos c]
      · rw [if_neg (by omega), if_neg c]
        cases blk
        · simp
        · simp only [↓reduceIte, true_and]
          by_cases q : byteAt s e = 125
          · rw [if_pos (by omega), if_pos q]
          · rw [if_neg (by omega), if_neg q]
    · simp only [↓reduceIte]
  rw [show K + 2 = (K + 1) + 1 from rfl, colophonref10_comment.l0, if_pos (by omega), bt_byte s e c0, if_pos (show (0 : Int) ≤ (e : Int) by omega), j1, j1]
  cases blk
  · simp only [Bool.false_eq_true, ↓reduceIte, true_and, false_and]
    by_cases q : byteAt s e = 10
    · rw [if_pos (by simp; omega), if_pos q]
    · rw [if_neg (by simp; omega), if_neg q]
  · simp
theorem cm_stop (s : ByteArray) (a : Nat) (blk : Bool) (K e : Nat) (c0 : s.size ≤ e) : colophonref10_comment.l0 (K + 1) s (a : Int) blk (e : Int) = if blk = true then some ((a : Int), 101) else some ((e : Int), 0) := by
  rw [colophonref10_comment.l0, if_neg (by omega)]
/-- Bytes that end nothing. -/
theorem cm_run (s : ByteArray) (hs : s.size < 1099511627776) (a : Nat) (ha : a ≤ s.size) (blk : Bool) (n : Nat) : ∀ (K e : Nat), a ≤ e → e + n ≤ s.size → e ≤ a + 65535 → (∀ j, j < n → byteAt s (e + j) ≠ 10 ∧ byteAt s (e + j) ≠ 125) →
    colophonref10_comment.l0 (K + 2 * n) s (a : Int) blk (e : Int) = if 65535 + a < e + n then some ((a : Int), 103) else colophonref10_comment.l0 K s (a : Int) blk ((e + n : Nat) : Int) := by
  induction n with
  | zero => intro K e h2 h3 h4 _; rw [if_neg (by omega)]; rfl
  | succ n ih =>
    intro K e h2 h3 h4 hj
    have h0 := hj 0 (by omega)
    rw [Nat.add_zero] at h0
    rw [show K + 2 * (n + 1) = (K + 2 * n) + 2 by omega, cm_byte s hs a ha blk _ e h2 (by omega), if_neg (fun h => h0.1 h.2)]
    by_cases c : 65535 + a < e + 1
    · rw [if_pos c, if_pos (by omega)]
    · rw [if_neg c, if_neg (fun h => h0.2 h.2), ih K (e + 1) (by omega) (by omega) (by omega) (fun j hjn => by have := hj (j + 1) (by omega); rwa [show e + (j + 1) = e + 1 + j by omega] at this)]
      rw [show e + 1 + n = e + (n + 1) by omega]
theorem high_bytes (s : ByteArray) (e : Nat) (c0 : e < s.size) (h : 2 ≤ nOf s e) : ∀ j, j < nOf s e → 128 ≤ byteAt s (e + j) := fun j hj => by
  have hd := decodeL_drop s e
  have hn := nOf_dec s e c0
  by_cases h0 : j = 0
  · subst h0
    rw [Nat.add_zero]
    rcases Nat.lt_or_ge (byteAt s e) 128 with h1 | h1
    · have := (low_char s e c0 h1).1; omega
    · exact h1
  · have := dec_high (s.data.toList.drop e) j (by omega) (by rw [hd, ← hn]; exact hj)
    rw [byteAt_drop] at this
    exact this.1
theorem comment_cm (s : ByteArray) (hs : s.size < 1099511627776) (a : Nat) (ha : a ≤ s.size) (line : Bool) (d : Nat) : ∀ (K e : Nat), s.size < e + d → 30 + 8 * d ≤ K → a ≤ e → e ≤ a + 65535 → e ≤ s.size → colophonref10_comment.l0 K s (a : Int) (!line) (e : Int) = some (two (cmGo s a line d e)) := by
  induction d with
  | zero => intro K e h _ _ _ h3; omega
  | succ d IH =>
    intro K e h hK h2 h4 h3
    unfold cmGo
    by_cases c0 : e < s.size
    · have hn := nOf_bd s e c0
      have h10 : pOf s e = 10 ↔ byteAt s e = 10 := char_is s e c0 10 (by omega)
      have h125 : pOf s e = 125 ↔ byteAt s e = 125 := char_is s e c0 125 (by omega)
      by_cases c1 : nOf s e = 1
      · obtain ⟨K, rfl⟩ : ∃ m, K = m + 2 := ⟨K - 2, by omega⟩
        rw [cm_byte s hs a ha _ K e h2 c0, c1]
        cases line
        · simp only [Bool.not_false, Bool.true_eq_false, false_and, ↓reduceIte, Bool.false_eq_true, c0, not_true_eq_false, true_and]
          by_cases c2 : 65535 + a < e + 1
          · rw [if_pos c2, if_pos c2]; rfl
          · rw [if_neg c2, if_neg c2]
            by_cases c3 : byteAt s e = 125
            · rw [if_pos c3, if_pos (h125.2 c3)]; rfl
            · rw [if_neg c3, if_neg (fun h => c3 (h125.1 h))]
              exact IH K (e + 1) (by omega) (by omega) (by omega) (by omega) (by omega)
        · simp only [Bool.not_true, true_and, false_and, ↓reduceIte, Bool.false_eq_true, c0, not_true_eq_false, false_or, Bool.true_eq_false]
          by_cases c3 : byteAt s e = 10
          · rw [if_pos c3, if_pos (h10.2 c3)]; rfl
          · rw [if_neg c3, if_neg (fun h => c3 (h10.1 h))]
            by_cases c2 : 65535 + a < e + 1
            · rw [if_pos c2, if_pos c2]; rfl
            · rw [if_neg c2, if_neg c2]
              exact IH K (e + 1) (by omega) (by omega) (by omega) (by omega) (by omega)
      · have hh := high_bytes s e c0 (by omega)
        have p10 : ¬ pOf s e = 10 := fun h => by have := hh 0 (by omega); rw [Nat.add_zero, h10.1 h] at this; omega
        have p125 : ¬ pOf s e = 125 := fun h => by have := hh 0 (by omega); rw [Nat.add_zero, h125.1 h] at this; omega
        obtain ⟨K, rfl⟩ : ∃ m, K = m + 2 * nOf s e := ⟨K - 2 * nOf s e, by omega⟩
        rw [cm_run s hs a ha _ _ K e h2 hn.2.2 h4 (fun j hj => by have := hh j hj; omega)]
        rw [if_neg (show ¬ (line = true ∧ (¬ e < s.size ∨ pOf s e = 10)) from fun h => h.2.elim (fun h => h c0) p10), if_neg (show ¬ ¬ e < s.size from fun h => h c0)]
        by_cases c2 : 65535 + a < e + nOf s e
        · rw [if_pos c2, if_pos c2]; rfl
        · rw [if_neg c2, if_neg c2, if_neg (fun h => p125 h.2)]
          exact IH K (e + nOf s e) (by omega) (by omega) (by omega) (by omega) hn.2.2
    · obtain ⟨K, rfl⟩ : ∃ m, K = m + 1 := ⟨K - 1, by omega⟩
      rw [cm_stop s a _ K e (by omega)]
      cases line
      · simp [c0, two]
      · simp [c0, two]
/-- The kind of the token that begins at a place; 0: none does. -/
def bgV (s : ByteArray) (a : Nat) : Int :=
  if gOf s a = true ∧ ltrB (pOf s a) = true then 1
  else if 48 ≤ byteAt s a ∧ byteAt s a ≤ 57 then 3
  else if byteAt s a = 34 then 4
  else if byteAt s a = 39 then 5
  else if slB s a = true then 7
  else if byteAt s a = 123 then 8
  else if signL (s.data.toList.drop a) = [] then 0 else 6
theorem slB_iff (s : ByteArray) (a : Nat) : slB s a = true ↔ a + 1 < s.size ∧ byteAt s a = 47 ∧ byteAt s (a + 1) = 47 := by
  unfold slB
  constructor
  · intro h
    have := pre_bytes s a 47 47 h
    exact ⟨this.1, this.2.1, this.2.2⟩
  · intro ⟨h1, h2, h3⟩
    have e1 : s.data.toList.drop a = s.data.toList[a]'(by rw [size_len]; omega) :: s.data.toList[a + 1]'(by rw [size_len]; omega) :: s.data.toList.drop (a + 2) := by
      rw [List.drop_eq_getElem_cons (by rw [size_len]; omega), List.drop_eq_getElem_cons (by rw [size_len]; omega)]
    have g1 : s.data.toList[a]'(by rw [size_len]; omega) = 47 := by
      apply UInt8.toNat_inj.1
      unfold byteAt at h2
      rw [List.getD_eq_getElem?_getD, List.getElem?_eq_getElem (by rw [size_len]; omega)] at h2
      exact h2
    have g2 : s.data.toList[a + 1]'(by rw [size_len]; omega) = 47 := by
      apply UInt8.toNat_inj.1
      unfold byteAt at h3
      rw [List.getD_eq_getElem?_getD, List.getElem?_eq_getElem (by rw [size_len]; omega)] at h3
      exact h3
    rw [e1, g1, g2]; simp [Lib.hasPrefix]
theorem begins_f (s : ByteArray) (hs : s.size < 1099511627776) (a : Nat) (ha : a < s.size) (K : Nat) (hK : 60 ≤ K) : colophonref10_begins.f K s (a : Int) = some (bgV s a) := by
  obtain ⟨K, rfl⟩ : ∃ m, K = m + 2 := ⟨K - 2, by omega⟩
  have e1 : Hid (wrap64 ((a : Int) + 1) = ((a + 1 : Nat) : Int)) := Lib.hid (by rw [w64' (by omega) (by omega)]; omega)
  have j1 : ∀ (b : Bool), colophonref10_begins.j1 (K + 1) s (a : Int) ⟨(signL (s.data.toList.drop a)).toArray⟩ b = if b = true then some 7 else if byteAt s a = 123 then some 8 else if signL (s.data.toList.drop a) = [] then some 0 else some 6 := fun b => by
    rw [colophonref10_begins.j1, if_pos (show (0 : Int) ≤ (a : Int) by omega), if_pos (show (a : Int) < (s.size : Int) by omega), bt_byte s a ha, Lib.toList_data]
    cases b
    · simp only [Bool.false_eq_true, ↓reduceIte]
      by_cases q : byteAt s a = 123
      · rw [if_pos (by omega), if_pos q]
      · rw [if_neg (by omega), if_neg q]
    · simp only [↓reduceIte]
  have hsl := slB_iff s a
  have j0 : ∀ (b : Bool), colophonref10_begins.j0 (K + 2) s (a : Int) b = if b = true then some 1 else if 48 ≤ byteAt s a ∧ byteAt s a ≤ 57 then some 3 else if byteAt s a = 34 then some 4 else if byteAt s a = 39 then some 5 else if slB s a = true then some 7 else if byteAt s a = 123 then some 8 else if signL (s.data.toList.drop a) = [] then some 0 else some 6 := fun b => by
    rw [show K + 2 = (K + 1) + 1 from rfl, colophonref10_begins.j0, sign04 s a ha hs _ (by omega), Option.bind_some]
    cases b
    · simp only [Bool.false_eq_true, ↓reduceIte]
      rw [if_pos (show (0 : Int) ≤ (a : Int) by omega), if_pos (show (a : Int) < (s.size : Int) by omega), bt_byte s a ha, digit10, Option.bind_some, e1.out]
      by_cases c1 : 48 ≤ byteAt s a ∧ byteAt s a ≤ 57
      · rw [if_pos c1, if_pos (by simp; omega)]
      · rw [if_neg c1, if_neg (by simp; omega)]
        by_cases c2 : byteAt s a = 34
        · rw [if_pos c2, if_pos (by omega)]
        rw [if_neg c2, if_neg (show ¬ ((byteAt s a : Nat) : Int) = 34 by omega)]
        by_cases c3 : byteAt s a = 39
        · rw [if_pos c3, if_pos (by omega)]
        rw [if_neg c3, if_neg (show ¬ ((byteAt s a : Nat) : Int) = 39 by omega)]
        by_cases c4 : byteAt s a = 47
        · rw [if_pos (show ((byteAt s a : Nat) : Int) = 47 by omega)]
          by_cases c5 : a + 1 < s.size
          · rw [if_pos (show ((a + 1 : Nat) : Int) < (s.size : Int) by omega), if_pos (by omega), bt_byte s (a + 1) c5, j1]
            by_cases c6 : byteAt s (a + 1) = 47
            · rw [if_pos (by simp; omega), if_pos (hsl.2 ⟨c5, c4, c6⟩)]
            · rw [if_neg (by simp; omega), if_neg (fun h => c6 (hsl.1 h).2.2)]
          · rw [if_neg (show ¬ ((a + 1 : Nat) : Int) < (s.size : Int) by omega), j1, if_neg (by simp), if_neg (fun h => c5 (hsl.1 h).1)]
        · rw [if_neg (show ¬ ((byteAt s a : Nat) : Int) = 47 by omega), j1, if_neg (by simp), if_neg (fun h => c4 (hsl.1 h).2.1)]
    · simp only [↓reduceIte]
  unfold colophonref10_begins.f bgV
  rw [next01 s a ha hs, Option.bind_some]
  simp only
  rw [letter04 _ _ (by omega), Option.bind_some, j0, j0]
  have fin : ∀ (c : Prop) [Decidable c] (x y : Int), (if c then some x else some y) = some (if c then x else y) := fun c _ x y => by split <;> rfl
  cases gOf s a
  · simp only [Bool.false_eq_true, ↓reduceIte, false_and, fin]
  · simp only [↓reduceIte, true_and, fin]
theorem nm_kind (s : ByteArray) (a k : Nat) : ∀ e, s.size < e + k → e ≤ s.size → (nmGo s a k e).2.2 = 0 → (nmGo s a k e).1 = if keyB (cutS s a (nmGo s a k e).2.1.toNat) = true then 2 else 1 := by
  induction k with
  | zero => intro e h1 h2; omega
  | succ k ih =>
    intro e h1 h2
    unfold nmGo
    by_cases c1 : e < s.size ∧ gOf s e = true ∧ partB (pOf s e) = true
    · rw [if_pos c1]
      have hn := nOf_bd s e c1.1
      by_cases c2 : 65535 + a < e + nOf s e
      · rw [if_pos c2]; intro h; simp at h
      · rw [if_neg c2]; exact ih _ (by omega) hn.2.2
    · rw [if_neg c1]
      intro _
      by_cases c : keyB (s.extract a e) = true
      · rw [if_pos c]; simp only [Int.toNat_natCast]; rw [if_pos (show keyB (cutS s a e) = true from c)]
      · rw [if_neg c]; simp only [Int.toNat_natCast]; rw [if_neg (show ¬ keyB (cutS s a e) = true from c)]
theorem nb_kind (s : ByteArray) (a k : Nat) : ∀ e, s.size < e + k → e ≤ s.size → (nbGo s a k e).2.2 = 0 → (nbGo s a k e).1 = 3 := by
  induction k with
  | zero => intro e h1 h2; omega
  | succ k ih =>
    intro e h1 h2
    unfold nbGo
    by_cases c1 : e < s.size ∧ 48 ≤ pOf s e ∧ pOf s e ≤ 57
    · rw [if_pos c1]
      have hn := nOf_bd s e c1.1
      by_cases c2 : 65535 + a < e + nOf s e
      · rw [if_pos c2]; intro h; simp at h
      · rw [if_neg c2]; exact ih _ (by omega) hn.2.2
    · rw [if_neg c1]; intro _; rfl
theorem qt_kind (s : ByteArray) (a k : Nat) : ∀ e, s.size < e + k → e ≤ s.size → (qtGo s a k e).2.2 = 0 → (qtGo s a k e).1 = 4 := by
  induction k with
  | zero => intro e h1 h2; omega
  | succ k ih =>
    intro e h1 h2
    unfold qtGo
    by_cases c1 : ¬ e < s.size ∨ pOf s e = 10
    · rw [if_pos c1]; intro h; simp at h
    · rw [if_neg c1]
      have hn := nOf_bd s e (by omega)
      by_cases c2 : 65535 + a < e + nOf s e
      · rw [if_pos c2]; intro h; simp at h
      · rw [if_neg c2]
        by_cases c3 : ctlB s e = true
        · rw [if_pos c3]; intro h; simp at h
        · rw [if_neg c3]
          by_cases c4 : pOf s e = 34
          · rw [if_pos c4]; intro _; rfl
          · rw [if_neg c4]; exact ih _ (by omega) hn.2.2
theorem cm_kind (s : ByteArray) (a : Nat) (line : Bool) (k : Nat) : ∀ e, s.size < e + k → e ≤ s.size → (cmGo s a line k e).2.2 = 0 → (cmGo s a line k e).1 = if line = true then 7 else 8 := by
  induction k with
  | zero => intro e h1 h2; omega
  | succ k ih =>
    intro e h1 h2
    unfold cmGo
    by_cases c1 : line = true ∧ (¬ e < s.size ∨ pOf s e = 10)
    · rw [if_pos c1, if_pos c1.1]; intro _; rfl
    · rw [if_neg c1]
      by_cases c0 : ¬ e < s.size
      · rw [if_pos c0]; intro h; simp at h
      · rw [if_neg c0]
        have hn := nOf_bd s e (by omega)
        by_cases c2 : 65535 + a < e + nOf s e
        · rw [if_pos c2]; intro h; simp at h
        · rw [if_neg c2]
          by_cases c4 : line = false ∧ pOf s e = 125
          · rw [if_pos c4, if_neg (by rw [c4.1]; simp)]; intro _; rfl
          · rw [if_neg c4]; exact ih _ (by omega) hn.2.2
theorem sg_kind (s : ByteArray) (a e : Nat) : (sgV s a e).2.2 = 0 → (sgV s a e).1 = 5 := by
  unfold sgV
  split
  · intro h; simp at h
  split
  · intro h; simp at h
  split
  · intro h; simp at h
  split
  · intro _; rfl
  · intro h; simp at h
theorem ltr_part (p : Int) (h : ltrB p = true) : partB p = true := by unfold partB; rw [h]; simp
theorem ends_f (s : ByteArray) (hs : s.size < 1099511627776) (a : Nat) (ha : a < s.size) (K : Nat) (hK : 100 + 8 * s.size ≤ K) (hk : bgV s a ≠ 0) :
    colophonref10_ends.f K s (a : Int) (bgV s a) = some (two (oneV s a)) ∧ ((oneV s a).2.2 = 0 → (oneV s a).1 = if bgV s a = 1 ∧ keyB (cutS s a (oneV s a).2.1.toNat) = true then 2 else bgV s a) := by
  have hn := nOf_bd s a ha
  have e1 : Hid (wrap64 ((a : Int) + 1) = ((a + 1 : Nat) : Int)) := Lib.hid (by rw [w64' (by omega) (by omega)]; omega)
  have i34 : pOf s a = 34 ↔ byteAt s a = 34 := char_is s a ha 34 (by omega)
  have i39 : pOf s a = 39 ↔ byteAt s a = 39 := char_is s a ha 39 (by omega)
  have i123 : pOf s a = 123 ↔ byteAt s a = 123 := char_is s a ha 123 (by omega)
  have idg := dig_iff s a ha
  have isl := slB_iff s a
  have low1 : byteAt s a < 128 → nOf s a = 1 := fun h => (low_char s a ha h).1
  unfold colophonref10_ends.f
  unfold bgV at hk ⊢
  unfold oneV
  by_cases c1 : gOf s a = true ∧ ltrB (pOf s a) = true
  · simp only [if_pos c1]
    have hr := row_nm s hs a (by omega) (s.size + 2) K a (by omega) (by omega) (Nat.le_refl _) (by omega)
    have hu : nmGo s a (s.size + 2) a = nmGo s a (s.size + 1) (a + nOf s a) := by
      rw [show s.size + 2 = (s.size + 1) + 1 from rfl, nmGo, if_pos ⟨ha, c1.1, ltr_part _ c1.2⟩, if_neg (by omega)]
    rw [hu] at hr
    refine ⟨?_, fun h => ?_⟩
    · rw [if_neg (by decide), if_neg (by decide), if_neg (by decide), if_neg (by decide), if_neg (by decide)]
      unfold colophonref10_row.f
      rw [hr, Option.bind_some]
    · rw [nm_kind s a _ _ (by omega) hn.2.2 h]
      by_cases q : keyB (cutS s a (nmGo s a (s.size + 1) (a + nOf s a)).2.1.toNat) = true
      · rw [if_pos q, if_pos ⟨trivial, q⟩]
      · rw [if_neg q, if_neg (fun h => q h.2)]
  simp only [if_neg c1] at hk ⊢
  by_cases c2 : 48 ≤ byteAt s a ∧ byteAt s a ≤ 57
  · have c2' := idg.2 c2
    simp only [if_pos c2, if_pos c2']
    have hr := row_nb s hs a (by omega) (s.size + 2) K a (by omega) (by omega) (Nat.le_refl _) (by omega)
    have hu : nbGo s a (s.size + 2) a = nbGo s a (s.size + 1) (a + nOf s a) := by
      rw [show s.size + 2 = (s.size + 1) + 1 from rfl, nbGo, if_pos ⟨ha, c2'⟩, if_neg (by omega)]
    rw [hu] at hr
    refine ⟨?_, fun h => ?_⟩
    · rw [if_neg (by decide), if_neg (by decide), if_neg (by decide), if_neg (by decide), if_neg (by decide)]
      unfold colophonref10_row.f
      rw [hr, Option.bind_some]
    · rw [nb_kind s a _ _ (by omega) hn.2.2 h, if_neg (fun h => absurd h.1 (by decide))]
  have c2' : ¬ (48 ≤ pOf s a ∧ pOf s a ≤ 57) := fun h => c2 (idg.1 h)
  simp only [if_neg c2, if_neg c2'] at hk ⊢
  by_cases c3 : byteAt s a = 34
  · simp only [if_pos c3, if_pos (i34.2 c3)]
    have h1 := low1 (by omega)
    rw [h1]
    have hr := quoted_text s hs a (by omega) (s.size + 1) K (a + 1) 0 (by omega) (by omega) (by omega) (by omega)
    refine ⟨?_, fun h => ?_⟩
    · rw [if_pos trivial]
      unfold colophonref10_quoted.f
      rw [e1.out, hr, Option.bind_some]
    · rw [qt_kind s a _ _ (by omega) (by omega) h, if_neg (fun h => absurd h.1 (by decide))]
  simp only [if_neg c3, if_neg (fun h => c3 (i34.1 h))] at hk ⊢
  by_cases c4 : byteAt s a = 39
  · simp only [if_pos c4, if_pos (i39.2 c4)]
    have h1 := low1 (by omega)
    rw [h1]
    have hr := quoted_char s hs a (a + 1) rfl (by omega) K (by omega)
    refine ⟨?_, fun h => ?_⟩
    · rw [if_neg (by decide), if_pos trivial]
      unfold colophonref10_quoted.f
      rw [e1.out, hr, Option.bind_some]
    · rw [sg_kind s a _ h, if_neg (fun h => absurd h.1 (by decide))]
  simp only [if_neg c4, if_neg (fun h => c4 (i39.1 h))] at hk ⊢
  have com : ∀ (line : Bool) (hl : ((byteAt s a : Int) == 47) = line) (hb : byteAt s a < 128) (h10 : byteAt s a ≠ 10) (h125 : byteAt s a ≠ 125), colophonref10_comment.f K s (a : Int) (!line) = some (two (cmGo s a ((byteAt s a : Int) == 47) (s.size + 1) (a + nOf s a))) := fun line hl hb h10 h125 => by
    obtain ⟨K, rfl⟩ : ∃ m, K = m + 2 := ⟨K - 2, by omega⟩
    unfold colophonref10_comment.f
    rw [cm_byte s hs a (by omega) _ K a (Nat.le_refl _) ha, if_neg (fun h => h10 h.2), if_neg (by omega), if_neg (fun h => h125 h.2), hl, low1 hb]
    exact comment_cm s hs a (by omega) line (s.size + 1) K (a + 1) (by omega) (by omega) (by omega) (by omega) (by omega)
  by_cases c5 : slB s a = true
  · have hb := (isl.1 c5).2.1
    have hl : ((byteAt s a : Int) == 47) = true := by simp; omega
    simp only [if_pos c5, if_pos (show pOf s a = 123 ∨ slB s a = true from .inr c5)]
    have hr := com true hl (by omega) (by omega) (by omega)
    refine ⟨?_, fun h => ?_⟩
    · rw [if_neg (by decide), if_neg (by decide), if_pos trivial]
      rw [Bool.not_true] at hr
      rw [hr, Option.bind_some]
    · rw [cm_kind s a _ _ _ (by omega) hn.2.2 h, if_pos hl, if_neg (fun h => absurd h.1 (by decide))]
  simp only [if_neg c5] at hk ⊢
  by_cases c6 : byteAt s a = 123
  · have hl : ((byteAt s a : Int) == 47) = false := by simp; omega
    simp only [if_pos c6, if_pos (show pOf s a = 123 ∨ slB s a = true from .inl (i123.2 c6))]
    have hr := com false hl (by omega) (by omega) (by omega)
    refine ⟨?_, fun h => ?_⟩
    · rw [if_neg (by decide), if_neg (by decide), if_neg (by decide), if_pos trivial]
      rw [Bool.not_false] at hr
      rw [hr, Option.bind_some]
    · rw [cm_kind s a _ _ _ (by omega) hn.2.2 h, if_neg (by rw [hl]; simp), if_neg (fun h => absurd h.1 (by decide))]
  simp only [if_neg c6, if_neg (show ¬ (pOf s a = 123 ∨ slB s a = true) from fun h => h.elim (fun h => c6 (i123.1 h)) c5)] at hk ⊢
  by_cases c7 : signL (s.data.toList.drop a) = []
  · rw [if_pos c7] at hk; exact absurd rfl hk
  · simp only [if_neg c7]
    refine ⟨?_, fun h => ?_⟩
    · rw [if_neg (by decide), if_neg (by decide), if_neg (by decide), if_neg (by decide), if_pos trivial, sign04 s a ha hs _ (by omega), Option.bind_some]
      have hle : (signL (s.data.toList.drop a)).length ≤ 2 := by
        unfold signL
        repeat' split
        all_goals simp
      rw [show ((⟨(signL (s.data.toList.drop a)).toArray⟩ : ByteArray).size : Int) = ((signL (s.data.toList.drop a)).length : Int) by rw [Lib.size_eq], w64' (by omega) (by omega)]
      rfl
    · rw [if_neg (fun h => absurd h.1 (by decide))]
end Go.Proofs.YtdphhmigbbgjmaaGreatDoor
end
section
namespace Go.Proofs.YtdphhmigbbgjmaaGreatDoor
open Go.RowKit Go.Lib
open PScan
open Go.Proofs.YtdphhmigbbgjmaaGreatDoorW.PrintWords
set_option linter.unusedVariables false
set_option linter.unusedSimpArgs false
/-- One byte between tokens. -/
theorem find_blank (s : ByteArray) (hs : s.size < 1099511627776) (K e : Nat) (f : Int) (hf : 0 ≤ f ∧ f ≤ e) (acc : List S48) (u v p q r : Int) (h : e < s.size) (hb : byteAt s e = 10 ∨ blnB ((byteAt s e : Nat) : Int) = true) :
    colophonref10_Find.l0 (K + 3) s f (e : Int) acc u v p q r = colophonref10_Find.l0 K s (if byteAt s e = 10 then f + 1 else f) ((e + 1 : Nat) : Int) acc u v p q r := by
  have e1 : Hid (wrap64 ((e : Int) + 1) = ((e + 1 : Nat) : Int)) := Lib.hid (by rw [w64' (by omega) (by omega)]; omega)
  have e2 : Hid (wrap64 (f + 1) = f + 1) := Lib.hid (w64' (by omega) (by omega))
  have j2 : ∀ g : Int, colophonref10_Find.j2 (K + 1) s g (e : Int) true acc u v p q r = colophonref10_Find.l0 K s g ((e + 1 : Nat) : Int) acc u v p q r := fun g => by
    rw [colophonref10_Find.j2, if_pos rfl, e1.out]
  have j1 : ∀ g : Int, colophonref10_Find.j1 (K + 2) s g (e : Int) acc u v p q r = colophonref10_Find.l0 K s g ((e + 1 : Nat) : Int) acc u v p q r := fun g => by
    rw [show K + 2 = (K + 1) + 1 from rfl, colophonref10_Find.j1, if_pos (show (0 : Int) ≤ (e : Int) by omega), if_pos (show (e : Int) < (s.size : Int) by omega), bt_byte s e h]
    by_cases c : byteAt s e = 10
    · rw [if_pos (show ((byteAt s e : Nat) : Int) = 10 by omega), j2]
    · rw [if_neg (show ¬ ((byteAt s e : Nat) : Int) = 10 by omega)]
      unfold colophonref10_blank.f
      rw [Option.bind_some, hb.resolve_left c, j2]
  rw [show K + 3 = (K + 2) + 1 from rfl, colophonref10_Find.l0, if_pos (show (e : Int) < (s.size : Int) by omega), if_pos (show (0 : Int) ≤ (e : Int) by omega), bt_byte s e h, j1, j1, e2.out]
  by_cases c : byteAt s e = 10
  · rw [if_pos (show ((byteAt s e : Nat) : Int) = 10 by omega), if_pos c]
  · rw [if_neg (show ¬ ((byteAt s e : Nat) : Int) = 10 by omega), if_neg c]
theorem find_ws (s : ByteArray) (hs : s.size < 1099511627776) (a : Nat) (ha : a ≤ s.size) (hw : wsE s a ≤ s.size) (acc : List S48) (u v p q r : Int) (n : Nat) : ∀ (K e : Nat), a ≤ e → e + n = wsE s a →
    colophonref10_Find.l0 (K + 3 * n) s ((nlAt s e - nlAt s a : Nat) : Int) (e : Int) acc u v p q r = colophonref10_Find.l0 K s ((nlAt s (wsE s a) - nlAt s a : Nat) : Int) ((wsE s a : Nat) : Int) acc u v p q r := by
  induction n with
  | zero => intro K e h1 h2; rw [show e = wsE s a by omega]; rfl
  | succ n ih =>
    intro K e h1 h2
    have hb := ws_at s a (e - a) (by omega)
    rw [show a + (e - a) = e by omega] at hb
    have hm := nl_mono s a (e - a)
    rw [show a + (e - a) = e by omega] at hm
    have hle := nlAt_le s e
    rw [show K + 3 * (n + 1) = (K + 3 * n) + 3 by omega, find_blank s hs _ e _ (by omega) acc u v p q r (by omega) hb]
    have e1 : (if byteAt s e = 10 then ((nlAt s e - nlAt s a : Nat) : Int) + 1 else ((nlAt s e - nlAt s a : Nat) : Int)) = ((nlAt s (e + 1) - nlAt s a : Nat) : Int) := by
      have e : nlAt s (e + 1) = if byteAt s e = 10 then nlAt s e + 1 else nlAt s e := rfl
      rw [e]; split <;> omega
    rw [e1]
    exact ih K (e + 1) (by omega) (by omega)
theorem find_trim (s : ByteArray) (acc : List S48) (hacc : acc.length < 2513169434916) (u v p q r en x kd pa pb pc fe : Int) (n : Nat) : ∀ (l : Bs) (K : Nat), l.length = n → (∃ c t, l = c :: t ∧ ([32, 9, 13] : Bs).contains c = false) → l.length < 1099511627776 →
    colophonref10_Find.l1 (K + (l.length - (Lib.trimRightS l [32, 9, 13]).length) + 1) s 7 acc u v p q r en x kd ⟨l.toArray⟩ pa pb pc fe = colophonref10_Find.l0 K s 0 en (acc ++ [⟨kd, ⟨(Lib.trimRightS l [32, 9, 13]).toArray⟩, ⟨pa, pb, pc⟩, fe⟩]) u v p q r := by
  induction n with
  | zero => intro l K h1 ⟨c, t, h2, _⟩ _; rw [h2] at h1; simp at h1
  | succ n ih =>
    intro l K h1 h2 h3
    have hne : l ≠ [] := fun e => by rw [e] at h1; simp at h1
    obtain ⟨l', y, rfl⟩ : ∃ l' y, l = l' ++ [y] := ⟨l.dropLast, l.getLast hne, (List.dropLast_concat_getLast hne).symm⟩
    have hl' : l'.length = n := by simpa using h1
    have hz : ((⟨(l' ++ [y]).toArray⟩ : ByteArray).size : Nat) = n + 1 := by rw [Lib.size_eq]; simpa using h1
    have hz' : (((⟨(l' ++ [y]).toArray⟩ : ByteArray).size : Nat) : Int) = ((n + 1 : Nat) : Int) := by rw [hz]
    have e1 : Hid (wrap64 (((n + 1 : Nat) : Int) - 1) = (n : Int)) := Lib.hid (by rw [w64' (by omega) (by simp at h3; omega)]; omega)
    have hbt : bt (⟨(l' ++ [y]).toArray⟩ : ByteArray) (n : Int) = ((y.toNat : Nat) : Int) := by
      rw [bt_byte _ _ (by rw [hz]; omega)]
      congr 1
      unfold byteAt
      simp [← hl']
    have hcut : cutS (⟨(l' ++ [y]).toArray⟩ : ByteArray) 0 n = ⟨l'.toArray⟩ := by
      have : (cutS (⟨(l' ++ [y]).toArray⟩ : ByteArray) 0 n).data.toList = l' := by rw [cut_list]; simp [← hl']
      cases hc : cutS (⟨(l' ++ [y]).toArray⟩ : ByteArray) 0 n with
      | mk d => rw [hc] at this; simp at this; rw [← this]
    rw [colophonref10_Find.l1, if_pos rfl, hz', e1.out, if_pos (by omega), if_pos (by omega), hbt]
    unfold colophonref10_blank.f
    rw [Option.bind_some, bln_has, trimR_snoc]
    by_cases c : ([32, 9, 13] : Bs).contains y = true
    · rw [if_pos c, if_pos c, if_pos (by omega), Int.toNat_natCast, hcut]
      have hfirst : ∃ c t, l' = c :: t ∧ ([32, 9, 13] : Bs).contains c = false := by
        obtain ⟨a, t, h4, h5⟩ := h2
        cases l' with
        | nil => simp at h4; rw [h4.1, h5] at c; exact absurd c (by simp)
        | cons b r => simp at h4; exact ⟨b, r, rfl, by rw [h4.1]; exact h5⟩
      have hle : (Lib.trimRightS l' [32, 9, 13]).length ≤ l'.length := by
        unfold Lib.trimRightS
        rw [List.length_reverse]
        have := (List.dropWhile_suffix (l := l'.reverse) (fun x => ([32, 9, 13] : Bs).contains x)).length_le
        simpa using this
      rw [show K + ((l' ++ [y]).length - (Lib.trimRightS l' [32, 9, 13]).length) = K + (l'.length - (Lib.trimRightS l' [32, 9, 13]).length) + 1 by simp; omega]
      exact ih l' K hl' hfirst (by simp at h3; omega)
    · rw [if_neg c, if_neg c, if_pos hacc, Nat.sub_self, Nat.add_zero]
theorem bg_zero (s : ByteArray) (a : Nat) (ha : a < s.size) (h : bgV s a = 0) : oneV s a = (0, (a : Int), 100) := by
  have i34 : pOf s a = 34 ↔ byteAt s a = 34 := char_is s a ha 34 (by omega)
  have i39 : pOf s a = 39 ↔ byteAt s a = 39 := char_is s a ha 39 (by omega)
  have i123 : pOf s a = 123 ↔ byteAt s a = 123 := char_is s a ha 123 (by omega)
  have idg := dig_iff s a ha
  unfold bgV at h
  unfold oneV
  by_cases c1 : gOf s a = true ∧ ltrB (pOf s a) = true
  · rw [if_pos c1] at h; exact absurd h (by decide)
  rw [if_neg c1] at h ⊢
  by_cases c2 : 48 ≤ byteAt s a ∧ byteAt s a ≤ 57
  · rw [if_pos c2] at h; exact absurd h (by decide)
  rw [if_neg c2] at h
  rw [if_neg (fun h => c2 (idg.1 h))]
  by_cases c3 : byteAt s a = 34
  · rw [if_pos c3] at h; exact absurd h (by decide)
  rw [if_neg c3] at h
  rw [if_neg (fun h => c3 (i34.1 h))]
  by_cases c4 : byteAt s a = 39
  · rw [if_pos c4] at h; exact absurd h (by decide)
  rw [if_neg c4] at h
  rw [if_neg (fun h => c4 (i39.1 h))]
  by_cases c5 : slB s a = true
  · rw [if_pos c5] at h; exact absurd h (by decide)
  rw [if_neg c5] at h
  by_cases c6 : byteAt s a = 123
  · rw [if_pos c6] at h; exact absurd h (by decide)
  rw [if_neg c6] at h
  rw [if_neg (fun h => h.elim (fun h => c6 (i123.1 h)) c5)]
  by_cases c7 : signL (s.data.toList.drop a) = []
  · rw [if_pos c7]
  · rw [if_neg c7] at h; exact absurd h (by decide)
theorem bg_seven (s : ByteArray) (a : Nat) (h : bgV s a = 7) : slB s a = true := by
  unfold bgV at h
  by_cases c5 : slB s a = true
  · exact c5
  · rw [if_neg c5] at h
    split at h
    · exact absurd h (by decide)
    split at h
    · exact absurd h (by decide)
    split at h
    · exact absurd h (by decide)
    split at h
    · exact absurd h (by decide)
    split at h
    · exact absurd h (by decide)
    split at h <;> exact absurd h (by decide)
theorem pl_wrap (s : ByteArray) (o : Nat) (ho : o ≤ s.size) (hs : s.size < 1099511627776) : wrap64 (plT s o).2.1 = (plT s o).2.1 ∧ wrap64 (plT s o).2.2 = (plT s o).2.2 := by
  have h1 := nlAt_le s o
  have h2 := colN_le s o
  exact ⟨w64' (x := ((nlAt s o + 1 : Nat) : Int)) (by omega) (by omega), w64' (x := ((colN s o + 1 : Nat) : Int)) (by omega) (by omega)⟩
theorem adv03 (s : ByteArray) (a b : Nat) (h : CB s a) (hab : a ≤ b) (hb : b ≤ s.size) (hs : s.size < 1099511627776) : colophonref03_Advance.f (plT s a).1 (plT s a).2.1 (plT s a).2.2 (cutS s a b) = some (plT s b) := by
  unfold colophonref03_Advance.f
  rw [if_pos ⟨by rw [cut_size s a b hb]; omega, pl_wrap s a (by omega) (by omega)⟩]
  congr 1
  exact adv_join s a b h hab hb (by omega)
set_option maxHeartbeats 1000000 in
theorem find_l0 (s : ByteArray) (hs : s.size < 1099511627776) (k : Nat) : ∀ (acc : List S48) (a q K : Nat), CB s a → CB s q → q ≤ a → acc.length ≤ a → s.size < a + k → 12 * (s.size - a) + 8 * s.size + 300 ≤ K →
    colophonref10_Find.l0 K s 0 (a : Int) acc 0 0 (plT s q).1 (plT s q).2.1 (plT s q).2.2 = some (acc ++ (scS s k a).1, (scS s k a).2.1, ((scS s k a).2.2 : Int)) := by
  induction k with
  | zero => intro acc a q K h _ _ _ h5 _; have := h.1; omega
  | succ k IH =>
    intro acc a q K h hq hqa hacc h5 hK
    obtain ⟨w1, w2, w3⟩ := wsE_fin s a h
    obtain ⟨K, rfl⟩ : ∃ m, K = m + 3 * (wsE s a - a) := ⟨K - 3 * (wsE s a - a), by omega⟩
    have hf0 := find_ws s hs a h.1 w2 acc 0 0 (plT s q).1 (plT s q).2.1 (plT s q).2.2 (wsE s a - a) K a (Nat.le_refl _) (by omega)
    rw [Nat.sub_self, show ((0 : Nat) : Int) = 0 from rfl] at hf0
    rw [hf0]
    obtain ⟨m, hm⟩ : ∃ m, wsE s a = m := ⟨_, rfl⟩
    have hend := ws_end s a
    unfold scS
    rw [hm] at w1 w2 w3 hend ⊢
    have hmz := hm
    clear hf0
    by_cases c0 : m = s.size
    · obtain ⟨K, rfl⟩ : ∃ n, K = n + 1 := ⟨K - 1, by omega⟩
      rw [colophonref10_Find.l0, if_neg (by omega), if_pos c0]; simp
    obtain ⟨b10, bbl⟩ := hend (by omega) h.1
    obtain ⟨K, rfl⟩ : ∃ n, K = n + 3 := ⟨K - 3, by omega⟩
    obtain ⟨e, q1, q2, q3, q4, q5⟩ := one_fin s m (by omega) w3
    have hbt := bt_byte s m (by omega)
    rw [show K + 3 = (K + 2) + 1 from rfl, colophonref10_Find.l0, if_pos (by omega), if_pos (by omega), hbt, if_neg (show ¬ ((byteAt s m : Nat) : Int) = 10 by omega)]
    rw [show K + 2 = (K + 1) + 1 from rfl, colophonref10_Find.j1, if_pos (by omega), if_pos (by omega), hbt, if_neg (show ¬ ((byteAt s m : Nat) : Int) = 10 by omega)]
    unfold colophonref10_blank.f
    rw [Option.bind_some, bbl, colophonref10_Find.j2, if_neg (by simp), begins_f s hs m (by omega) K (by omega), Option.bind_some, if_neg c0]
    by_cases c1 : bgV s m = 0
    · rw [if_pos c1, bg_zero s m (by omega) c1]; simp
    rw [if_neg c1]
    obtain ⟨hE, hKd⟩ := ends_f s hs m (by omega) K (by omega) c1
    rw [hE, Option.bind_some]
    by_cases c2 : (oneV s m).2.2 = 0
    · have q6 := q5 c2
      have hkd := hKd c2
      have hem : (oneV s m).2.1.toNat = e := by rw [q1]; simp
      rw [hem] at hkd
      rw [if_pos c2, hem]
      have ht1 : (two (oneV s m)).1 = (e : Int) := q1
      have ht2 : (two (oneV s m)).2 = 0 := c2
      rw [ht1, ht2]
      rw [if_pos (show (0 : Int) = 0 from rfl)]
      have hp1 : (plT s q).1 = (q : Int) := rfl
      rw [hp1, if_pos (show (0 : Int) ≤ (q : Int) by omega), if_pos (show (q : Int) ≤ (m : Int) by omega), if_pos (show (m : Int) ≤ (s.size : Int) by omega)]
      simp only [Int.toNat_natCast]
      have hadv := adv03 s q m hq (by omega) w2 hs
      rw [hp1] at hadv
      rw [hadv, Option.bind_some, if_pos (show (0 : Int) ≤ (m : Int) by omega), if_pos (show (m : Int) ≤ (e : Int) by omega), if_pos (show (e : Int) ≤ (s.size : Int) by omega), key04 _ _ (by omega), Option.bind_some]
      have ih := fun x K' => IH (acc ++ [x]) e m K' q4 w3 (by omega) (by simp; omega) (by omega)
      have hlim : acc.length < 2513169434916 := by omega
      have tail : ∀ (kd : Int) (b : Bool), kd = (if b = true then 2 else bgV s m) → colophonref10_Find.j3 K s (bgV s m) b acc 0 0 (plT s m).1 (plT s m).2.1 (plT s m).2.2 (e : Int) 0 (bgV s m) (cutS s m e) (plT s m).1 (plT s m).2.1 (plT s m).2.2 ((nlAt s m - nlAt s a : Nat) : Int) =
          some (acc ++ (⟨kd, (if bgV s m = 7 then ⟨(Lib.trimRightS (cutS s m e).data.toList [32, 9, 13]).toArray⟩ else cutS s m e), ⟨(plT s m).1, (plT s m).2.1, (plT s m).2.2⟩, ((nlAt s m - nlAt s a : Nat) : Int)⟩ :: (scS s k e).1), (scS s k e).2.1, ((scS s k e).2.2 : Int)) := fun kd b hb => by
        obtain ⟨K, rfl⟩ : ∃ n, K = n + 2 := ⟨K - 2, by omega⟩
        have hl1 : ∀ kd' : Int, colophonref10_Find.l1 K s (bgV s m) acc 0 0 (plT s m).1 (plT s m).2.1 (plT s m).2.2 (e : Int) 0 kd' (cutS s m e) (plT s m).1 (plT s m).2.1 (plT s m).2.2 ((nlAt s m - nlAt s a : Nat) : Int) =
            some (acc ++ (⟨kd', (if bgV s m = 7 then ⟨(Lib.trimRightS (cutS s m e).data.toList [32, 9, 13]).toArray⟩ else cutS s m e), ⟨(plT s m).1, (plT s m).2.1, (plT s m).2.2⟩, ((nlAt s m - nlAt s a : Nat) : Int)⟩ :: (scS s k e).1), (scS s k e).2.1, ((scS s k e).2.2 : Int)) := fun kd' => by
          by_cases c3 : bgV s m = 7
          · have hsl := (slB_iff s m).1 (bg_seven s m c3)
            have hlen : (cutS s m e).data.toList.length = e - m := by rw [size_len, cut_size s m e q3]
            have hfirst : ∃ c t, (cutS s m e).data.toList = c :: t ∧ ([32, 9, 13] : Bs).contains c = false := by
              cases hc : (cutS s m e).data.toList with
              | nil => rw [hc] at hlen; simp at hlen; omega
              | cons c t =>
                refine ⟨c, t, rfl, ?_⟩
                have := cut_byte s m e 0 (by omega)
                rw [Nat.add_zero, hsl.2.1] at this
                unfold byteAt at this
                rw [hc] at this
                simp at this
                rw [show c = 47 from UInt8.toNat_inj.1 this]; decide
            have hle : (Lib.trimRightS (cutS s m e).data.toList [32, 9, 13]).length ≤ e - m := by
              unfold Lib.trimRightS
              rw [List.length_reverse, ← hlen]
              have := (List.dropWhile_suffix (l := (cutS s m e).data.toList.reverse) (fun x => ([32, 9, 13] : Bs).contains x)).length_le
              simpa using this
            obtain ⟨K', hK'⟩ : ∃ K', K = K' + ((cutS s m e).data.toList.length - (Lib.trimRightS (cutS s m e).data.toList [32, 9, 13]).length) + 1 := ⟨K - (((cutS s m e).data.toList.length - (Lib.trimRightS (cutS s m e).data.toList [32, 9, 13]).length) + 1), by omega⟩
            have hft := find_trim s acc hlim 0 0 (plT s m).1 (plT s m).2.1 (plT s m).2.2 (e : Int) 0 kd' (plT s m).1 (plT s m).2.1 (plT s m).2.2 ((nlAt s m - nlAt s a : Nat) : Int) _ (cutS s m e).data.toList K' rfl hfirst (by rw [hlen]; omega)
            rw [← hK'] at hft
            rw [c3, if_pos rfl]
            have hmk : (⟨(cutS s m e).data.toList.toArray⟩ : ByteArray) = cutS s m e := by cases cutS s m e; simp
            rw [hmk] at hft
            rw [hft, ih _ K' (by omega)]
            simp
          · obtain ⟨K, rfl⟩ : ∃ n, K = n + 1 := ⟨K - 1, by omega⟩
            rw [colophonref10_Find.l1, if_neg c3, if_pos hlim, ih _ K (by omega), if_neg c3]
            simp
        rw [show K + 2 = (K + 1) + 1 from rfl, colophonref10_Find.j3, colophonref10_Find.j4, hl1, colophonref10_Find.j4, hl1]
        cases b
        · rw [if_neg (by simp)]; rw [if_neg (by simp)] at hb; rw [hb]
        · rw [if_pos rfl]; rw [if_pos rfl] at hb; rw [hb]
      have htk : tkV s a m (oneV s m) = ⟨(oneV s m).1, (if bgV s m = 7 then ⟨(Lib.trimRightS (cutS s m e).data.toList [32, 9, 13]).toArray⟩ else cutS s m e), ⟨(plT s m).1, (plT s m).2.1, (plT s m).2.2⟩, ((nlAt s m - nlAt s a : Nat) : Int)⟩ := by
        unfold tkV txV
        rw [hem]
        have h7 : ((oneV s m).1 = 7) ↔ bgV s m = 7 := by
          rw [hkd]
          by_cases c : bgV s m = 1 ∧ keyB (cutS s m e) = true
          · rw [if_pos c, c.1]; decide
          · rw [if_neg c]
        by_cases c : bgV s m = 7
        · rw [if_pos c, if_pos (h7.2 c)]
        · rw [if_neg c, if_neg (fun h => c (h7.1 h))]
      rw [htk]
      rw [hmz] at *
      by_cases c3 : bgV s m = 1
      · rw [if_pos c3]
        have := tail (oneV s m).1 (keyB (cutS s m e)) (by rw [hkd]; by_cases c : keyB (cutS s m e) = true
                                                          · rw [if_pos ⟨c3, c⟩, if_pos c]
                                                          · rw [if_neg (fun h => c h.2), if_neg c])
        exact this
      · rw [if_neg c3]
        exact tail (oneV s m).1 false (by rw [hkd, if_neg (fun h => c3 h.1), if_neg (by simp)])
    · have ht1 : (two (oneV s m)).1 = (e : Int) := q1
      have ht2 : (two (oneV s m)).2 = (oneV s m).2.2 := rfl
      have hem : (oneV s m).2.1.toNat = e := by rw [q1]; simp
      rw [if_neg c2, ht2, if_neg c2, ht1, hem]; simp
theorem sc_fin (s : ByteArray) (k : Nat) : ∀ a, CB s a → s.size < a + k → (scS s k a).2.2 ≤ s.size := by
  induction k with
  | zero => intro a h h2; have := h.1; omega
  | succ k ih =>
    intro a h h2
    obtain ⟨w1, w2, w3⟩ := wsE_fin s a h
    unfold scS
    by_cases c0 : wsE s a = s.size
    · rw [if_pos c0]; exact Nat.zero_le _
    rw [if_neg c0]
    obtain ⟨e, q1, q2, q3, q4, q5⟩ := one_fin s (wsE s a) (by omega) w3
    have hem : (oneV s (wsE s a)).2.1.toNat = e := by rw [q1]; simp
    by_cases c2 : (oneV s (wsE s a)).2.2 = 0
    · rw [if_pos c2, hem]
      exact ih e q4 (by have := q5 c2; omega)
    · rw [if_neg c2, hem]; exact q3
theorem refAll_f (s : ByteArray) (hs : s.size < 1099511627776) : colophonref10_All.f (20 * s.size + 300) s = some (allV s) := by
  unfold colophonref10_All.f colophonref10_Find.f
  have := find_l0 s hs (s.size + 1) [] 0 0 (20 * s.size + 300) (CB_zero s) (CB_zero s) (Nat.le_refl _) (Nat.le_refl _) (by omega) (by omega)
  have e0 : plT s 0 = (0, 1, 1) := by simp [plT, nlAt, colN, cnt_nil]
  rw [e0] at this
  rw [show ((0 : Nat) : Int) = 0 from rfl] at this
  simp only at this
  rw [this, Option.bind_some, List.nil_append]
  have hfin := sc_fin s (s.size + 1) 0 (CB_zero s) (by omega)
  unfold allV erP scV
  by_cases c : (scS s (s.size + 1) 0).2.1 = 0
  · rw [if_pos c, if_pos c, c]
  · rw [if_neg c, if_neg c]
    simp only
    rw [if_pos (by omega), if_pos (by omega), Int.toNat_natCast]
    have := adv03 s 0 (scS s (s.size + 1) 0).2.2 (CB_zero s) (by omega) hfin hs
    rw [e0] at this
    rw [this, Option.bind_some]
end Go.Proofs.YtdphhmigbbgjmaaGreatDoor
end
