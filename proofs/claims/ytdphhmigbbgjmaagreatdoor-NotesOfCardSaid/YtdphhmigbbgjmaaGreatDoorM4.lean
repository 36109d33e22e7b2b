/- What the print of package scan takes as it stands: class.Sign, class.IsKey, scan.next, named, numbered, quoted, comment, in the form of the print. Places add up at the beginnings of characters. Plain Lean. What package scan reads, in plain Lean: the token at a place, all tokens, what is wrong. Where a token ends a character begins. -/
import Derived.Test.YtdphhmigbbgjmaaGreatDoorScanL
import Derived.Test.YtdphhmigbbgjmaaGreatDoorM2
import Derived.Test.YtdphhmigbbgjmaaGreatDoorM1
section
namespace Go.Proofs.YtdphhmigbbgjmaaGreatDoor
open Go.RowKit Go.Lib
attribute [local go_sem] byteAt_get wrap64_byteAt
def class_Sign.f (a0 : ByteArray) (a1 : Int) : Option ByteArray := if a0.size < 4611686018427387904 then some (signS a0 a1) else none
theorem class_Sign.calls (a0 : ByteArray) (a1 : Int) (r : ByteArray) (w : World) (h : class_Sign.f a0 a1 = some r) :
    Calls Tryz.prog 71 #[.string a0, .int .i64 a1] w fun e w' => e = .returned (.string r) ∧ Below w.heap.size w w' := by
  unfold class_Sign.f at h
  by_cases hs : a0.size < 4611686018427387904
  · rw [if_pos hs] at h
    obtain rfl := Option.some.inj h
    exact class_Sign a0 a1 w hs
  · rw [if_neg hs] at h; cases h
def class_IsKey.f (a0 : ByteArray) : Option Bool := some (keyB a0)
def scan_next.f (a0 : ByteArray) (a1 : Int) : Option (Int × Int × Bool) := if a0.size < 4611686018427387904 then some (nxT a0 a1) else none
theorem scan_next.calls (a0 : ByteArray) (a1 : Int) (r1 : Int) (r2 : Int) (r3 : Bool) (w : World) (h : scan_next.f a0 a1 = some (r1, r2, r3)) :
    Calls Tryz.prog 63 #[.string a0, .int .i64 a1] w fun e w' => e = .returned (.tuple #[.int .i32 r1, .int .i64 r2, .bool r3]) ∧ Below w.heap.size w w' := by
  unfold scan_next.f at h
  by_cases hs : a0.size < 4611686018427387904
  · rw [if_pos hs] at h
    have h1 := Option.some.inj h
    have := scan_next a0 a1 w hs
    rw [h1] at this; exact this
  · rw [if_neg hs] at h; cases h
/-- Where a token may begin and go on. -/
def inB (s : ByteArray) (a b : Int) : Prop := s.size < 4611686018427387904 ∧ 0 ≤ a ∧ a ≤ b ∧ b ≤ (s.size : Int)
instance (s : ByteArray) (a b : Int) : Decidable (inB s a b) := by unfold inB; infer_instance
def scan_named.f (a0 : ByteArray) (a1 a2 : Int) : Option (Int × Int × Int) := if inB a0 a1 a2 then some (nmGo a0 a1.toNat (a0.size + 1) a2.toNat) else none
theorem scan_named.calls (a0 : ByteArray) (a1 : Int) (a2 : Int) (r1 : Int) (r2 : Int) (r3 : Int) (w : World) (h : scan_named.f a0 a1 a2 = some (r1, r2, r3)) (hT : Clas w) :
    Calls Tryz.prog 65 #[.string a0, .int .i64 a1, .int .i64 a2] w fun e w' => e = .returned (.tuple #[.int .u8 r1, .int .i64 r2, .int .i64 r3]) ∧ Below w.heap.size w w' := by
  unfold scan_named.f at h
  by_cases hs : inB a0 a1 a2
  · rw [if_pos hs] at h
    have h1 := Option.some.inj h
    unfold inB at hs
    obtain ⟨a, rfl⟩ : ∃ a : Nat, a1 = a := ⟨a1.toNat, by omega⟩
    obtain ⟨b, rfl⟩ : ∃ b : Nat, a2 = b := ⟨a2.toNat, by omega⟩
    have := scan_named a0 a b w hs.1 (by omega) (by omega) hT
    simp only [Int.toNat_natCast] at h1
    rw [h1] at this; exact this
  · rw [if_neg hs] at h; cases h
def scan_numbered.f (a0 : ByteArray) (a1 a2 : Int) : Option (Int × Int × Int) := if inB a0 a1 a2 then some (nbGo a0 a1.toNat (a0.size + 1) a2.toNat) else none
theorem scan_numbered.calls (a0 : ByteArray) (a1 : Int) (a2 : Int) (r1 : Int) (r2 : Int) (r3 : Int) (w : World) (h : scan_numbered.f a0 a1 a2 = some (r1, r2, r3)) :
    Calls Tryz.prog 66 #[.string a0, .int .i64 a1, .int .i64 a2] w fun e w' => e = .returned (.tuple #[.int .u8 r1, .int .i64 r2, .int .i64 r3]) ∧ Below w.heap.size w w' := by
  unfold scan_numbered.f at h
  by_cases hs : inB a0 a1 a2
  · rw [if_pos hs] at h
    have h1 := Option.some.inj h
    unfold inB at hs
    obtain ⟨a, rfl⟩ : ∃ a : Nat, a1 = a := ⟨a1.toNat, by omega⟩
    obtain ⟨b, rfl⟩ : ∃ b : Nat, a2 = b := ⟨a2.toNat, by omega⟩
    have := scan_numbered a0 a b w hs.1 (by omega) (by omega)
    simp only [Int.toNat_natCast] at h1
    rw [h1] at this; exact this
  · rw [if_neg hs] at h; cases h
def scan_quoted.f (a0 : ByteArray) (a1 a2 : Int) : Option (Int × Int × Int) := if inB a0 a1 a2 then some (qtGo a0 a1.toNat (a0.size + 1) a2.toNat) else none
theorem scan_quoted.calls (a0 : ByteArray) (a1 : Int) (a2 : Int) (r1 : Int) (r2 : Int) (r3 : Int) (w : World) (h : scan_quoted.f a0 a1 a2 = some (r1, r2, r3)) :
    Calls Tryz.prog 67 #[.string a0, .int .i64 a1, .int .i64 a2] w fun e w' => e = .returned (.tuple #[.int .u8 r1, .int .i64 r2, .int .i64 r3]) ∧ Below w.heap.size w w' := by
  unfold scan_quoted.f at h
  by_cases hs : inB a0 a1 a2
  · rw [if_pos hs] at h
    have h1 := Option.some.inj h
    unfold inB at hs
    obtain ⟨a, rfl⟩ : ∃ a : Nat, a1 = a := ⟨a1.toNat, by omega⟩
    obtain ⟨b, rfl⟩ : ∃ b : Nat, a2 = b := ⟨a2.toNat, by omega⟩
    have := scan_quoted a0 a b w hs.1 (by omega) (by omega)
    simp only [Int.toNat_natCast] at h1
    rw [h1] at this; exact this
  · rw [if_neg hs] at h; cases h
def scan_comment.f (a0 : ByteArray) (a1 a2 : Int) : Option (Int × Int × Int) := if inB a0 a1 a2 ∧ a1 < (a0.size : Int) then some (cmGo a0 a1.toNat ((byteAt a0 a1.toNat : Int) == 47) (a0.size + 1) a2.toNat) else none
theorem scan_comment.calls (a0 : ByteArray) (a1 : Int) (a2 : Int) (r1 : Int) (r2 : Int) (r3 : Int) (w : World) (h : scan_comment.f a0 a1 a2 = some (r1, r2, r3)) :
    Calls Tryz.prog 70 #[.string a0, .int .i64 a1, .int .i64 a2] w fun e w' => e = .returned (.tuple #[.int .u8 r1, .int .i64 r2, .int .i64 r3]) ∧ Below w.heap.size w w' := by
  unfold scan_comment.f at h
  by_cases hs : inB a0 a1 a2 ∧ a1 < (a0.size : Int)
  · rw [if_pos hs] at h
    have h1 := Option.some.inj h
    obtain ⟨hs, hlt⟩ := hs
    unfold inB at hs
    obtain ⟨a, rfl⟩ : ∃ a : Nat, a1 = a := ⟨a1.toNat, by omega⟩
    obtain ⟨b, rfl⟩ : ∃ b : Nat, a2 = b := ⟨a2.toNat, by omega⟩
    simp only [Int.toNat_natCast] at h1
    cases hl : ((byteAt a0 a : Int) == 47) with
    | true =>
      rw [hl] at h1
      have := scan_comment_line a0 a b w hs.1 (by omega) (by omega) (by omega) hl
      rw [h1] at this; exact this
    | false =>
      rw [hl] at h1
      have := scan_comment_block a0 a b w hs.1 (by omega) (by omega) (by omega) hl
      rw [h1] at this; exact this
  · rw [if_neg hs] at h; cases h
def blnB (c : Int) : Bool := decide (c = 32) || (decide (c = 9) || decide (c = 13))
def colophonref10_blank.f (a0 : Int) : Option Bool := some (blnB a0)
theorem r10_blank (c : Int) (w : World) : Calls Tryz.prog 31 #[.int .u8 c] w fun e w' => e = .returned (.bool (blnB c)) ∧ Below w.heap.size w w' := by
  by_cases h1 : c = 32
  · subst h1
    go_enter Tryz.func31, Tryz.ntmps31
    go_wp2
    go_ret
    exact ⟨rfl, Below.refl _ _⟩
  · by_cases h2 : c = 9
    · subst h2
      go_enter Tryz.func31, Tryz.ntmps31
      go_wp2
      go_ret
      exact ⟨rfl, Below.refl _ _⟩
    · have e1 : blnB c = decide (c = 13) := by simp [blnB, h1, h2]
      have f1 : (c == 32) = false := by simp [h1]
      have f2 : (c == 9) = false := by simp [h2]
      rw [e1]
      clear e1 h1 h2
      go_enter Tryz.func31, Tryz.ntmps31
      go_wp2
      go_ret
      exact ⟨by first | rfl | exact congrArg (fun b => Ending.returned (.bool b)) (by by_cases h : c = 13 <;> simp [h]), Below.refl _ _⟩
theorem colophonref10_blank.calls (a0 : Int) (r : Bool) (w : World) (h : colophonref10_blank.f a0 = some r) :
    Calls Tryz.prog 31 #[.int .u8 a0] w fun e w' => e = .returned (.bool r) ∧ Below w.heap.size w w' := by
  obtain rfl := Option.some.inj h
  exact r10_blank a0 w
def colophonref01_Next.f (a0 : ByteArray) (a1 : Int) : Option (Int × Int × Bool) := if a0.size < 4611686018427387904 ∧ 0 ≤ a1 ∧ a1 < (a0.size : Int) then some (nxT a0 a1) else none
theorem colophonref01_Next.calls (a0 : ByteArray) (a1 : Int) (r1 : Int) (r2 : Int) (r3 : Bool) (w : World) (h : colophonref01_Next.f a0 a1 = some (r1, r2, r3)) :
    Calls Tryz.prog 45 #[.string a0, .int .i64 a1] w fun e w' => e = .returned (.tuple #[.int .i64 r1, .int .i64 r2, .bool r3]) ∧ Below w.heap.size w w' := by
  unfold colophonref01_Next.f at h
  by_cases hs : a0.size < 4611686018427387904 ∧ 0 ≤ a1 ∧ a1 < (a0.size : Int)
  · rw [if_pos hs] at h
    unfold nxT at h
    rw [if_pos hs.2] at h
    obtain ⟨n, rfl⟩ : ∃ n : Nat, a1 = n := ⟨a1.toNat, by omega⟩
    simp only [Int.toNat_natCast, Option.some.injEq, Prod.mk.injEq] at h
    obtain ⟨rfl, rfl, rfl⟩ := h
    refine (r1_Next a0 n w (by omega) hs.1).mono ?_
    rintro e w' ⟨rfl, rfl⟩
    exact ⟨rfl, Below.refl _ _⟩
  · rw [if_neg hs] at h; cases h
def colophonref03_Advance.f (a0_0 : Int) (a0_1 : Int) (a0_2 : Int) (a1 : ByteArray) : Option (Int × Int × Int) := if a1.size * 8 ≤ 140737488351232 ∧ wrap64 a0_1 = a0_1 ∧ wrap64 a0_2 = a0_2 then some (advT a0_0 a0_1 a0_2 a1) else none
theorem colophonref03_Advance.calls (a0_0 : Int) (a0_1 : Int) (a0_2 : Int) (a1 : ByteArray) (r1 : Int) (r2 : Int) (r3 : Int) (w : World) (h : colophonref03_Advance.f a0_0 a0_1 a0_2 a1 = some (r1, r2, r3)) :
    Calls Tryz.prog 21 #[.agg #[.int .i64 a0_0, .int .i64 a0_1, .int .i64 a0_2], .string a1] w fun e w' => e = .returned (.agg #[.int .i64 r1, .int .i64 r2, .int .i64 r3]) ∧ Below w.heap.size w w' := by
  unfold colophonref03_Advance.f at h
  by_cases hs : a1.size * 8 ≤ 140737488351232 ∧ wrap64 a0_1 = a0_1 ∧ wrap64 a0_2 = a0_2
  · rw [if_pos hs] at h
    simp only [advT, Option.some.injEq, Prod.mk.injEq] at h
    obtain ⟨rfl, rfl, rfl⟩ := h
    exact r3_Advance a0_0 a0_1 a0_2 a1 w hs.1 hs.2.1 hs.2.2
  · rw [if_neg hs] at h; cases h
end Go.Proofs.YtdphhmigbbgjmaaGreatDoor
end
section
namespace Go.Proofs.YtdphhmigbbgjmaaGreatDoor
open Go.RowKit Go.Lib
theorem cut_list (s : ByteArray) (a b : Nat) : (cutS s a b).data.toList = (s.data.toList.drop a).take (b - a) := by unfold cutS; rw [extract_list]
theorem cut_size (s : ByteArray) (a b : Nat) (h : b ≤ s.size) : (cutS s a b).size = b - a := by unfold cutS; simp; omega
theorem cut_byte (s : ByteArray) (a b j : Nat) (h : j < b - a) : byteAt (cutS s a b) j = byteAt s (a + j) := by
  unfold byteAt; rw [cut_list, getD_take _ _ _ h, List.getD_eq_getElem?_getD, List.getElem?_drop, ← List.getD_eq_getElem?_getD]
theorem cut_nl (s : ByteArray) (a b : Nat) : ∀ j, j ≤ b - a → nlAt s (a + j) = nlAt s a + nlAt (cutS s a b) j ∧ (nlAt (cutS s a b) j = 0 → fromAt s (a + j) = fromAt s a) ∧ (nlAt (cutS s a b) j ≠ 0 → fromAt s (a + j) = a + fromAt (cutS s a b) j)
  | 0, _ => ⟨rfl, fun _ => rfl, fun h => absurd rfl h⟩
  | j + 1, h => by
    obtain ⟨h1, h2, h3⟩ := cut_nl s a b j (by omega)
    have hb := cut_byte s a b j (by omega)
    rw [← Nat.add_assoc]
    have e1 : ∀ (t : ByteArray) i, nlAt t (i + 1) = if byteAt t i = 10 then nlAt t i + 1 else nlAt t i := fun _ _ => rfl
    have e2 : ∀ (t : ByteArray) i, fromAt t (i + 1) = if byteAt t i = 10 then i + 1 else fromAt t i := fun _ _ => rfl
    rw [e1, e1, e2, e2, hb]
    by_cases h10 : byteAt s (a + j) = 10
    · simp only [if_pos h10]
      exact ⟨by omega, fun h => by omega, fun _ => by omega⟩
    · simp only [if_neg h10]
      exact ⟨h1, h2, h3⟩
/-- The place so many bytes into a text. -/
def plT (s : ByteArray) (o : Nat) : Int × Int × Int := ((o : Int), ((nlAt s o + 1 : Nat) : Int), ((colN s o + 1 : Nat) : Int))
theorem adv_join (s : ByteArray) (a b : Nat) (h : CB s a) (hab : a ≤ b) (hb : b ≤ s.size) (hs : s.size < 4611686018427387904) :
    advT (a : Int) ((nlAt s a + 1 : Nat) : Int) ((colN s a + 1 : Nat) : Int) (cutS s a b) = plT s b := by
  have hz := cut_size s a b hb
  obtain ⟨h1, h2, h3⟩ := cut_nl s a b (b - a) (Nat.le_refl _)
  rw [show a + (b - a) = b by omega] at h1 h2 h3
  have n1 := nlAt_le s a
  have n2 := nlAt_le s b
  have c1 := colN_le s a
  have c2 := colN_le s b
  have t1 := tailC_le (cutS s a b)
  have n3 := nlAt_le (cutS s a b) (b - a)
  unfold advT plT
  rw [hz]
  rw [hz] at t1
  have hf := fromAt_le s a
  have hcol : colI (nlAt (cutS s a b) (b - a)) ((colN s a + 1 : Nat) : Int) + (tailC (cutS s a b) : Int) = ((colN s b + 1 : Nat) : Int) := by
    unfold tailC colI
    rw [hz]
    by_cases h0 : nlAt (cutS s a b) (b - a) = 0
    · rw [if_pos h0, fromAt_zero _ _ h0, List.drop_zero, cut_list]
      have e := h2 h0
      unfold colN
      rw [e]
      have hB := h.2.take (b - fromAt s a) (by omega) (by rw [List.length_drop, size_len]; omega)
      have hsp := hB.split
      rw [List.take_take, Nat.min_eq_left (by omega), List.drop_take, List.drop_drop] at hsp
      rw [List.drop_take, List.drop_take, show fromAt s a + (a - fromAt s a) = a by omega, show b - fromAt s a - (a - fromAt s a) = b - a by omega] at *
      omega
    · rw [if_neg h0]
      have e := h3 h0
      unfold colN
      rw [e, cut_list, List.drop_take, List.drop_drop, List.drop_take]
      rw [show b - a - fromAt (cutS s a b) (b - a) = b - (a + fromAt (cutS s a b) (b - a)) by omega]
      omega
  rw [hcol]
  simp only [Prod.mk.injEq]
  refine ⟨?_, ?_, ?_⟩ <;> unfold wrap64 <;> omega
end Go.Proofs.YtdphhmigbbgjmaaGreatDoor
end
section
namespace Go.Proofs.YtdphhmigbbgjmaaGreatDoor
open Go.RowKit Go.Lib
set_option linter.unusedVariables false
theorem nOf_dec (s : ByteArray) (e : Nat) (h : e < s.size) : nOf s e = (Utf8.decode s e).2 := by unfold nOf nxT; rw [if_pos (by omega)]; simp
theorem pOf_dec (s : ByteArray) (e : Nat) (h : e < s.size) : pOf s e = ((Utf8.decode s e).1 : Int) := by unfold pOf nxT; rw [if_pos (by omega)]; simp
theorem gOf_dec (s : ByteArray) (e : Nat) (h : e < s.size) : gOf s e = okC (Utf8.decode s e) := by unfold gOf nxT; rw [if_pos (by omega)]; simp
theorem CB_next (s : ByteArray) (e : Nat) (h : CB s e) (he : e < s.size) : CB s (e + nOf s e) := by rw [nOf_dec s e he]; exact (CB_step s e h he).1
/-- A byte below 128 is a character. -/
theorem low_char (s : ByteArray) (e : Nat) (he : e < s.size) (h : byteAt s e < 128) : nOf s e = 1 ∧ pOf s e = (byteAt s e : Int) ∧ gOf s e = true := by
  rw [nOf_dec s e he, pOf_dec s e he, gOf_dec s e he, dec_at, decodeN_g1 _ _ _ _ _ (by omega)]
  exact ⟨rfl, rfl, by unfold okC; simp; omega⟩
theorem dec_low (n b0 b1 b2 b3 : Nat) (h1 : 128 ≤ b0) : 128 ≤ (decodeN n b0 b1 b2 b3).1 := by
  unfold decodeN
  rw [if_neg (by omega)]
  repeat' split
  all_goals (try simp only)
  all_goals omega
/-- A character below 128 is a byte. -/
theorem char_low (s : ByteArray) (e : Nat) (he : e < s.size) (h : pOf s e < 128) : byteAt s e < 128 := by
  rw [pOf_dec s e he, dec_at] at h
  rcases Nat.lt_or_ge (byteAt s e) 128 with h1 | h1
  · exact h1
  · have := dec_low (s.size - e) (byteAt s e) (byteAt s (e + 1)) (byteAt s (e + 2)) (byteAt s (e + 3)) h1; omega
theorem char_is (s : ByteArray) (e : Nat) (he : e < s.size) (c : Nat) (hc : c < 128) : (pOf s e = (c : Int)) ↔ byteAt s e = c := by
  constructor
  · intro h
    have := (low_char s e he (char_low s e he (by omega))).2.1; omega
  · intro h
    rw [(low_char s e he (by omega)).2.1, h]
/-- Is a result's place one of a character's beginning, not ahead of the token? -/
def Fin (s : ByteArray) (a e : Nat) (r : Int × Int × Int) : Prop := ∃ m : Nat, r.2.1 = (m : Int) ∧ a ≤ m ∧ m ≤ s.size ∧ CB s m ∧ (r.2.2 = 0 → e ≤ m)
theorem nm_fin (s : ByteArray) (a : Nat) (ha : CB s a) : ∀ k e, s.size < e + k → a ≤ e → e ≤ s.size → CB s e → Fin s a e (nmGo s a k e)
  | 0, e, h1, _, h3, _ => by omega
  | k + 1, e, h1, h2, h3, h4 => by
    unfold nmGo
    by_cases c1 : e < s.size ∧ gOf s e = true ∧ partB (pOf s e) = true
    · rw [if_pos c1]
      have hn := nOf_bd s e c1.1
      by_cases c2 : 65535 + a < e + nOf s e
      · rw [if_pos c2]; exact ⟨a, rfl, Nat.le_refl _, ha.1, ha, fun h => by simp at h⟩
      · rw [if_neg c2]
        obtain ⟨m, q1, q2, q3, q4, q5⟩ := nm_fin s a ha k (e + nOf s e) (by omega) (by omega) hn.2.2 (CB_next s e h4 c1.1)
        exact ⟨m, q1, q2, q3, q4, fun h => by have := q5 h; omega⟩
    · rw [if_neg c1]
      split <;> exact ⟨e, rfl, h2, h3, h4, fun _ => Nat.le_refl _⟩
theorem nb_fin (s : ByteArray) (a : Nat) (ha : CB s a) : ∀ k e, s.size < e + k → a ≤ e → e ≤ s.size → CB s e → Fin s a e (nbGo s a k e)
  | 0, e, h1, _, h3, _ => by omega
  | k + 1, e, h1, h2, h3, h4 => by
    unfold nbGo
    by_cases c1 : e < s.size ∧ 48 ≤ pOf s e ∧ pOf s e ≤ 57
    · rw [if_pos c1]
      have hn := nOf_bd s e c1.1
      by_cases c2 : 65535 + a < e + nOf s e
      · rw [if_pos c2]; exact ⟨a, rfl, Nat.le_refl _, ha.1, ha, fun h => by simp at h⟩
      · rw [if_neg c2]
        obtain ⟨m, q1, q2, q3, q4, q5⟩ := nb_fin s a ha k (e + nOf s e) (by omega) (by omega) hn.2.2 (CB_next s e h4 c1.1)
        exact ⟨m, q1, q2, q3, q4, fun h => by have := q5 h; omega⟩
    · rw [if_neg c1]; exact ⟨e, rfl, h2, h3, h4, fun _ => Nat.le_refl _⟩
theorem qt_fin (s : ByteArray) (a : Nat) (ha : CB s a) : ∀ k e, s.size < e + k → a ≤ e → e ≤ s.size → CB s e → Fin s a e (qtGo s a k e)
  | 0, e, h1, _, h3, _ => by omega
  | k + 1, e, h1, h2, h3, h4 => by
    unfold qtGo
    by_cases c1 : ¬ e < s.size ∨ pOf s e = 10
    · rw [if_pos c1]; exact ⟨a, rfl, Nat.le_refl _, ha.1, ha, fun h => by simp at h⟩
    · rw [if_neg c1]
      have hlt : e < s.size := by omega
      have hn := nOf_bd s e hlt
      by_cases c2 : 65535 + a < e + nOf s e
      · rw [if_pos c2]; exact ⟨a, rfl, Nat.le_refl _, ha.1, ha, fun h => by simp at h⟩
      · rw [if_neg c2]
        by_cases c3 : ctlB s e = true
        · rw [if_pos c3]; exact ⟨e, rfl, h2, h3, h4, fun h => by simp at h⟩
        · rw [if_neg c3]
          by_cases c4 : pOf s e = 34
          · rw [if_pos c4]; exact ⟨e + nOf s e, rfl, by omega, hn.2.2, CB_next s e h4 hlt, fun _ => by omega⟩
          · rw [if_neg c4]
            obtain ⟨m, q1, q2, q3, q4, q5⟩ := qt_fin s a ha k (e + nOf s e) (by omega) (by omega) hn.2.2 (CB_next s e h4 hlt)
            exact ⟨m, q1, q2, q3, q4, fun h => by have := q5 h; omega⟩
theorem cm_fin (s : ByteArray) (a : Nat) (ha : CB s a) (line : Bool) : ∀ k e, s.size < e + k → a ≤ e → e ≤ s.size → CB s e → Fin s a e (cmGo s a line k e)
  | 0, e, h1, _, h3, _ => by omega
  | k + 1, e, h1, h2, h3, h4 => by
    unfold cmGo
    by_cases c1 : line = true ∧ (¬ e < s.size ∨ pOf s e = 10)
    · rw [if_pos c1]; exact ⟨e, rfl, h2, h3, h4, fun _ => Nat.le_refl _⟩
    · rw [if_neg c1]
      by_cases c0 : ¬ e < s.size
      · rw [if_pos c0]; exact ⟨a, rfl, Nat.le_refl _, ha.1, ha, fun h => by simp at h⟩
      · rw [if_neg c0]
        have hlt : e < s.size := by omega
        have hn := nOf_bd s e hlt
        by_cases c2 : 65535 + a < e + nOf s e
        · rw [if_pos c2]; exact ⟨a, rfl, Nat.le_refl _, ha.1, ha, fun h => by simp at h⟩
        · rw [if_neg c2]
          by_cases c4 : line = false ∧ pOf s e = 125
          · rw [if_pos c4]; exact ⟨e + nOf s e, rfl, by omega, hn.2.2, CB_next s e h4 hlt, fun _ => by omega⟩
          · rw [if_neg c4]
            obtain ⟨m, q1, q2, q3, q4, q5⟩ := cm_fin s a ha line k (e + nOf s e) (by omega) (by omega) hn.2.2 (CB_next s e h4 hlt)
            exact ⟨m, q1, q2, q3, q4, fun h => by have := q5 h; omega⟩
/-- A character between quotes: b is the place behind the first quote. -/
def sgV (s : ByteArray) (a b : Nat) : Int × Int × Int :=
  if ¬ b < s.size ∨ pOf s b = 10 then (0, (a : Int), 101)
  else if pOf s b = 39 ∨ ctlB s b = true then (0, (b : Int), 102)
  else if ¬ b + nOf s b < s.size ∨ pOf s (b + nOf s b) = 10 then (0, (a : Int), 101)
  else if pOf s (b + nOf s b) = 39 then (5, ((b + nOf s b + nOf s (b + nOf s b) : Nat) : Int), 0)
  else (0, ((b + nOf s b : Nat) : Int), 102)
theorem sg_fin (s : ByteArray) (a e : Nat) (ha : CB s a) (h2 : a ≤ e) (h4 : CB s e) : Fin s a e (sgV s a e) := by
  unfold sgV
  have ho : Fin s a e (0, (a : Int), 101) := ⟨a, rfl, Nat.le_refl _, ha.1, ha, fun h => by simp at h⟩
  by_cases c1 : ¬ e < s.size ∨ pOf s e = 10
  · rw [if_pos c1]; exact ho
  · rw [if_neg c1]
    have hlt : e < s.size := by omega
    have hn := nOf_bd s e hlt
    have hc := CB_next s e h4 hlt
    by_cases c2 : pOf s e = 39 ∨ ctlB s e = true
    · rw [if_pos c2]; exact ⟨e, rfl, h2, h4.1, h4, fun h => by simp at h⟩
    · rw [if_neg c2]
      by_cases c3 : ¬ e + nOf s e < s.size ∨ pOf s (e + nOf s e) = 10
      · rw [if_pos c3]; exact ho
      · rw [if_neg c3]
        have hlt2 : e + nOf s e < s.size := by omega
        have hn2 := nOf_bd s _ hlt2
        by_cases c4 : pOf s (e + nOf s e) = 39
        · rw [if_pos c4]; exact ⟨_, rfl, by omega, hn2.2.2, CB_next s _ hc hlt2, fun _ => by omega⟩
        · rw [if_neg c4]; exact ⟨_, rfl, by omega, by omega, hc, fun h => by simp at h⟩
def slB (s : ByteArray) (a : Nat) : Bool := Lib.hasPrefix (s.data.toList.drop a) [47, 47]
/-- The token at a place: its kind, its end, 0; or the place of what is wrong, and what. -/
def oneV (s : ByteArray) (a : Nat) : Int × Int × Int :=
  if gOf s a = true ∧ ltrB (pOf s a) = true then nmGo s a (s.size + 1) (a + nOf s a)
  else if 48 ≤ pOf s a ∧ pOf s a ≤ 57 then nbGo s a (s.size + 1) (a + nOf s a)
  else if pOf s a = 34 then qtGo s a (s.size + 1) (a + nOf s a)
  else if pOf s a = 39 then sgV s a (a + nOf s a)
  else if pOf s a = 123 ∨ slB s a = true then cmGo s a ((byteAt s a : Int) == 47) (s.size + 1) (a + nOf s a)
  else if signL (s.data.toList.drop a) = [] then (0, (a : Int), 100)
  else (6, ((a + (signL (s.data.toList.drop a)).length : Nat) : Int), 0)
theorem pre_len {l p : Bs} (h : Lib.hasPrefix l p = true) : ∃ t, l = p ++ t := by
  unfold Lib.hasPrefix at h
  exact (List.isPrefixOf_iff_prefix.1 h).imp fun t ht => ht.symm
theorem pre_bytes (s : ByteArray) (a : Nat) (x y : UInt8) (h : Lib.hasPrefix (s.data.toList.drop a) [x, y] = true) : a + 1 < s.size ∧ byteAt s a = x.toNat ∧ byteAt s (a + 1) = y.toNat := by
  obtain ⟨t, ht⟩ := pre_len h
  have hl := congrArg List.length ht
  rw [List.length_drop, size_len] at hl
  simp at hl
  refine ⟨by omega, ?_, ?_⟩
  · have := byteAt_drop s a 0; rw [ht] at this; simpa using this.symm
  · have := byteAt_drop s a 1; rw [ht] at this; simpa using this.symm
theorem idx_of (c : UInt8) (h : 0 ≤ Lib.indexByte sgsL c) : c ∈ sgsL := by
  by_cases hm : c ∈ sgsL
  · exact hm
  · have : ∀ l : Bs, c ∉ l → Lib.indexByte l c = -1 := fun l => by
      induction l with
      | nil => intro _; rfl
      | cons x r ih =>
        intro hx
        simp only [List.mem_cons, not_or] at hx
        unfold Lib.indexByte
        rw [ih hx.2, if_neg (by simpa using fun e => hx.1 e.symm)]
        rfl
    rw [this _ hm] at h; omega
/-- A sign's bytes are the source's, and below 128. -/
theorem sign_in (s : ByteArray) (a : Nat) (ha : a < s.size) (hca : CB s a) : signL (s.data.toList.drop a) = [] ∨ (a < a + (signL (s.data.toList.drop a)).length ∧ a + (signL (s.data.toList.drop a)).length ≤ s.size ∧ CB s (a + (signL (s.data.toList.drop a)).length)) := by
  have two : ∀ x y : UInt8, x.toNat < 128 → y.toNat < 128 → Lib.hasPrefix (s.data.toList.drop a) [x, y] = true → a < a + 2 ∧ a + 2 ≤ s.size ∧ CB s (a + 2) := fun x y hx hy h => by
    obtain ⟨h1, h2, h3⟩ := pre_bytes s a x y h
    have e1 := low_char s a ha (by omega)
    have e2 := low_char s (a + 1) h1 (by omega)
    have c1 := CB_next s a hca ha
    rw [e1.1] at c1
    have c2 := CB_next s (a + 1) c1 h1
    rw [e2.1] at c2
    exact ⟨by omega, by omega, c2⟩
  unfold signL
  by_cases p1 : Lib.hasPrefix (s.data.toList.drop a) [58, 61] = true
  · rw [if_pos p1]; exact .inr (two _ _ (by decide) (by decide) p1)
  rw [if_neg p1]
  by_cases p2 : Lib.hasPrefix (s.data.toList.drop a) [46, 46] = true
  · rw [if_pos p2]; exact .inr (two _ _ (by decide) (by decide) p2)
  rw [if_neg p2]
  by_cases p3 : Lib.hasPrefix (s.data.toList.drop a) [60, 61] = true
  · rw [if_pos p3]; exact .inr (two _ _ (by decide) (by decide) p3)
  rw [if_neg p3]
  by_cases p4 : Lib.hasPrefix (s.data.toList.drop a) [62, 61] = true
  · rw [if_pos p4]; exact .inr (two _ _ (by decide) (by decide) p4)
  rw [if_neg p4]
  cases hd : s.data.toList.drop a with
  | nil => exact .inl rfl
  | cons c r =>
    simp only
    by_cases p5 : 0 ≤ Lib.indexByte sgsL c
    · rw [if_pos p5]
      have hm := idx_of c p5
      have hb : byteAt s a = c.toNat := by have := byteAt_drop s a 0; rw [hd] at this; simpa using this.symm
      have hc : c.toNat < 128 := by
        have : ∀ x ∈ sgsL, x.toNat < 128 := by decide
        exact this c hm
      have e1 := low_char s a ha (by omega)
      have c1 := CB_next s a hca ha
      rw [e1.1] at c1
      exact .inr ⟨by simp, by simp; omega, c1⟩
    · rw [if_neg p5]; exact .inl rfl
theorem one_fin (s : ByteArray) (a : Nat) (ha : a < s.size) (hca : CB s a) : Fin s a (a + 1) (oneV s a) := by
  have hn := nOf_bd s a ha
  have hc := CB_next s a hca ha
  have up : ∀ r, Fin s a (a + nOf s a) r → Fin s a (a + 1) r := fun r ⟨m, q1, q2, q3, q4, q5⟩ => ⟨m, q1, q2, q3, q4, fun h => by have := q5 h; omega⟩
  unfold oneV
  split
  · exact up _ (nm_fin s a hca _ _ (by omega) (by omega) hn.2.2 hc)
  split
  · exact up _ (nb_fin s a hca _ _ (by omega) (by omega) hn.2.2 hc)
  split
  · exact up _ (qt_fin s a hca _ _ (by omega) (by omega) hn.2.2 hc)
  split
  · exact up _ (sg_fin s a _ hca (by omega) hc)
  split
  · exact up _ (cm_fin s a hca _ _ _ (by omega) (by omega) hn.2.2 hc)
  rcases sign_in s a ha hca with h | ⟨h1, h2, h3⟩
  · rw [if_pos h]; exact ⟨a, rfl, Nat.le_refl _, hca.1, hca, fun h => by simp at h⟩
  · rw [if_neg (fun h => by rw [h] at h1; simp at h1)]; exact ⟨_, rfl, by omega, h2, h3, fun _ => by omega⟩
/-- White space. -/
def wsB (b : UInt8) : Bool := ([32, 9, 13, 10] : Bs).contains b
def wsN (l : Bs) : Nat := (l.takeWhile wsB).length
theorem ws_drop (l : Bs) : Lib.trimLeftS l [32, 9, 13, 10] = l.drop (wsN l) := by
  unfold Lib.trimLeftS wsN
  induction l with
  | nil => rfl
  | cons b r ih =>
    by_cases h : wsB b = true
    · rw [List.dropWhile_cons, List.takeWhile_cons, if_pos h, if_pos (show ([32, 9, 13, 10] : Bs).contains b = true from h)]; simpa using ih
    · rw [List.dropWhile_cons, List.takeWhile_cons, if_neg h, if_neg (show ¬ ([32, 9, 13, 10] : Bs).contains b = true from h)]; rfl
theorem ws_le (l : Bs) : wsN l ≤ l.length := by
  unfold wsN
  have := congrArg List.length (List.takeWhile_append_dropWhile (p := wsB) (l := l))
  rw [List.length_append] at this; omega
theorem ws_bytes (l : Bs) : ∀ j, j < wsN l → wsB (l.getD j 0) = true := by
  unfold wsN
  induction l with
  | nil => intro j h; simp at h
  | cons b r ih =>
    intro j h
    by_cases hb : wsB b = true
    · rw [List.takeWhile_cons, if_pos hb] at h
      cases j with
      | zero => simpa using hb
      | succ j => simpa using ih j (by simpa using h)
    · rw [List.takeWhile_cons, if_neg hb] at h; simp at h
theorem ws_low (b : UInt8) (h : wsB b = true) : b.toNat < 128 := by
  simp [wsB] at h
  rcases h with rfl | rfl | rfl | rfl <;> decide
theorem CB_low (s : ByteArray) (a : Nat) (h : CB s a) : ∀ j, a + j ≤ s.size → (∀ i, i < j → byteAt s (a + i) < 128) → CB s (a + j)
  | 0, _, _ => h
  | j + 1, h1, h2 => by
    have ih := CB_low s a h j (by omega) (fun i hi => h2 i (by omega))
    have e := low_char s (a + j) (by omega) (h2 j (by omega))
    have := CB_next s (a + j) ih (by omega)
    rw [e.1] at this
    exact this
/-- Where the next token begins. -/
def wsE (s : ByteArray) (a : Nat) : Nat := a + wsN (s.data.toList.drop a)
theorem wsE_fin (s : ByteArray) (a : Nat) (h : CB s a) : a ≤ wsE s a ∧ wsE s a ≤ s.size ∧ CB s (wsE s a) := by
  have h1 := ws_le (s.data.toList.drop a)
  rw [List.length_drop, size_len] at h1
  have h0 := h.1
  unfold wsE
  refine ⟨by omega, by omega, CB_low s a h _ (by omega) fun i hi => ?_⟩
  have := ws_low _ (ws_bytes (s.data.toList.drop a) i hi)
  rwa [byteAt_drop] at this
end Go.Proofs.YtdphhmigbbgjmaaGreatDoor
end
