/- Characters as they are shown: a character's code written again is its bytes; a text's characters with controls shown as blanks, all and the first so many. Plain Lean: no program, no condition. report.shown: a line as it is shown, and its first so many characters. Conditions: the line has at most 2^40 bytes; the number is none below zero nor beyond its characters. report.shown: the walk. Conditions: the line has at most 2^40 bytes; the number is none below zero nor beyond its characters. -/
import Derived.Test.YtdphhmigbbgjmaaDoorM1
import Derived.Lib.RuneBytes
import Derived.Test.YtdphhmigbbgjmaaDoorBuild
import Derived.Test.YtdphhmigbbgjmaaDoorShelf
import Derived.Laws.RangeString
import Derived.Laws.RangeAny
import Derived.Deep.LoopGhost
import Derived.OwnWalk
import Derived.Lib.OthersKept
import Derived.WalkSmall
import Derived.Lib.Hide
section
namespace Go.Proofs.YtdphhmigbbgjmaaDoor
open Go.RowKit Go.Lib
theorem toU (b : UInt8) (x : Int) (h : x = b.toNat) : x.toNat.toUInt8 = b := by subst h; simp
theorem take_gd (l : Bs) (h : 1 ≤ l.length) : l.take 1 = [l.getD 0 0] := by
  match l, h with
  | a :: _, _ => rfl
theorem take_gd2 (l : Bs) (h : 2 ≤ l.length) : l.take 2 = [l.getD 0 0, l.getD 1 0] := by
  match l, h with
  | a :: b :: _, _ => rfl
theorem take_gd3 (l : Bs) (h : 3 ≤ l.length) : l.take 3 = [l.getD 0 0, l.getD 1 0, l.getD 2 0] := by
  match l, h with
  | a :: b :: c :: _, _ => rfl
theorem take_gd4 (l : Bs) (h : 4 ≤ l.length) : l.take 4 = [l.getD 0 0, l.getD 1 0, l.getD 2 0, l.getD 3 0] := by
  match l, h with
  | a :: b :: c :: d :: _, _ => rfl
/-- A good character's code, written again, is its bytes. -/
theorem enc_dec (l : Bs) (hne : l ≠ []) (hk : okC (decodeL l) = true) : encodeRune ((decodeL l).1 : Int) = l.take (decodeL l).2 := by
  have hlen : 1 ≤ l.length := by cases l with | nil => exact absurd rfl hne | cons a t => simp
  have hle := decL_le l hne
  rw [decL_N] at hk hle ⊢
  by_cases hg : goodN l.length (l.getD 0 0).toNat (l.getD 1 0).toNat (l.getD 2 0).toNat (l.getD 3 0).toNat
  · rcases hg with h | h | h | h
    · rw [decodeN_g1 _ _ _ _ _ h]
      show encodeRune ((l.getD 0 0).toNat : Int) = l.take 1
      rw [take_gd l hlen]
      unfold encodeRune
      rw [encodeRuneZ_one (by omega) (by omega)]
      simp only [List.map_cons, List.map_nil]
      rw [toU (l.getD 0 0) _ rfl]
    · rw [decodeN_g2 _ _ _ _ _ h]
      show encodeRune ((64 * ((l.getD 0 0).toNat % 32) + (l.getD 1 0).toNat % 64 : Nat) : Int) = l.take 2
      rw [take_gd2 l (by omega)]
      have h1 := gd_lt l 1
      unfold encodeRune
      rw [encodeRuneZ_two (by omega) (by omega)]
      simp only [List.map_cons, List.map_nil]
      rw [toU (l.getD 0 0) _ (by omega), toU (l.getD 1 0) _ (by omega)]
    · rw [decodeN_g3 _ _ _ _ _ h]
      show encodeRune ((64 * (64 * ((l.getD 0 0).toNat % 16) + (l.getD 1 0).toNat % 64) + (l.getD 2 0).toNat % 64 : Nat) : Int) = l.take 3
      rw [take_gd3 l (by omega)]
      unfold secP at h
      unfold encodeRune
      rw [encodeRuneZ_three (by omega)]
      simp only [List.map_cons, List.map_nil]
      rw [toU (l.getD 0 0) _ (by omega), toU (l.getD 1 0) _ (by omega), toU (l.getD 2 0) _ (by omega)]
    · rw [decodeN_g4 _ _ _ _ _ h]
      show encodeRune ((64 * (64 * (64 * ((l.getD 0 0).toNat % 8) + (l.getD 1 0).toNat % 64) + (l.getD 2 0).toNat % 64) + (l.getD 3 0).toNat % 64 : Nat) : Int) = l.take 4
      rw [take_gd4 l (by omega)]
      unfold secP at h
      unfold encodeRune
      rw [encodeRuneZ_four (by omega) (by omega)]
      simp only [List.map_cons, List.map_nil]
      rw [toU (l.getD 0 0) _ (by omega), toU (l.getD 1 0) _ (by omega), toU (l.getD 2 0) _ (by omega), toU (l.getD 3 0) _ (by omega)]
  · rw [decodeN_bad _ _ _ _ _ (gd_lt _ _) (gd_lt _ _) (gd_lt _ _) (gd_lt _ _) hg] at hk
    exact absurd hk (by decide)
/-- A bad one's code is the replacement's. -/
theorem enc_bad (l : Bs) (hk : okC (decodeL l) = false) : decodeL l = (65533, 1) := by
  unfold okC at hk
  simp at hk
  exact Prod.ext hk.1 hk.2
theorem enc_fffd : encodeRune 65533 = [239, 191, 189] := by decide
theorem enc_blank : encodeRune 32 = [32] := by decide
theorem enc_len (r : Int) : 1 ≤ (encodeRune r).length ∧ (encodeRune r).length ≤ 4 := by
  have := runeCells_le r; rwa [runeCells_length] at this
/-- How a character is shown. -/
def shR (p : Int) : Int := if p < 32 ∨ p = 127 then 32 else p
def shC (l : Bs) : Bs := encodeRune (shR ((decodeL l).1 : Int))
theorem shC_len (l : Bs) : (shC l).length ≤ 4 := (enc_len _).2
/-- The first n characters, as they are shown. -/
def shN : Nat → Bs → Bs
  | 0, _ => []
  | n + 1, l => if l = [] then [] else shC l ++ shN n (l.drop (decodeL l).2)
theorem shN_zero (l : Bs) : shN 0 l = [] := rfl
theorem shN_nil : ∀ n, shN n [] = []
  | 0 => rfl
  | _ + 1 => by simp [shN]
theorem shN_succ (n : Nat) (l : Bs) (h : l ≠ []) : shN (n + 1) l = shC l ++ shN n (l.drop (decodeL l).2) := by
  rw [shN, if_neg h]
/-- Once all are shown, more of them are none. -/
theorem shN_more : ∀ (n : Nat) (l : Bs), cnt l ≤ n → shN n l = shN (cnt l) l
  | 0, l, h => by rw [show cnt l = 0 by omega]
  | n + 1, l, h => by
    by_cases e : l = []
    · subst e; rw [shN_nil, shN_nil]
    · have hs := cnt_step l e
      rw [hs, Nat.add_comm 1, shN_succ _ _ e, shN_succ _ _ e, shN_more n _ (by omega)]
theorem shN_len : ∀ (n : Nat) (l : Bs), (shN n l).length ≤ 4 * n
  | 0, _ => by simp [shN]
  | n + 1, l => by
    by_cases e : l = []
    · subst e; rw [shN_nil]; simp
    · rw [shN_succ _ _ e, List.length_append]
      have := shC_len l
      have := shN_len n (l.drop (decodeL l).2)
      omega
theorem shN_at (s : ByteArray) (p n : Nat) (h : p < s.size) : shN (n + 1) (s.data.toList.drop p) = encodeRune (shR ((Utf8.decode s p).1 : Int)) ++ shN n (s.data.toList.drop (p + (Utf8.decode s p).2)) := by
  rw [shN_succ _ _ (drop_ne s p h), List.drop_drop, shC, decodeL_drop]
theorem shN_end (s : ByteArray) (p n : Nat) (h : s.size ≤ p) : shN n (s.data.toList.drop p) = [] := by
  rw [List.drop_eq_nil_of_le (by rw [size_len]; exact h), shN_nil]
/-- The reference's way to show a character, over its own bytes. -/
theorem shC_ref (l : Bs) (hne : l ≠ []) : shC l = if okC (decodeL l) = false then [239, 191, 189] else if ((decodeL l).1 : Int) < 32 ∨ ((decodeL l).1 : Int) = 127 then [32] else l.take (decodeL l).2 := by
  unfold shC shR
  cases hk : okC (decodeL l) with
  | false =>
    rw [enc_bad l hk]
    exact enc_fffd
  | true =>
    simp only [Bool.true_eq_false, if_false]
    split
    · exact enc_blank
    · exact enc_dec l hne hk
end Go.Proofs.YtdphhmigbbgjmaaDoor
end
section
namespace Go.Proofs.YtdphhmigbbgjmaaDoor
open Go.RowKit Go.Lib
set_option linter.unusedVariables false
abbrev TBd : TypeId := 139
abbrev TUd : TypeId := 5
theorem bd_new (B : Nat) (w : World) (h : B ≤ w.heap.size) : Lib.IsBuilderF TBd TUd B w.heap.size [] (w.alloc (.cells #[.pointer none, .slice none 0 0] TBd)) :=
  .of (.inl ⟨h, .slice none 0 0, by show (w.heap.push _)[w.heap.size]? = _; rw [Array.getElem?_push, if_pos rfl], World.ownsRow_nil _ _ _ _, by simp [Value.ownBlock]⟩)
/-- What has been written when pos bytes are read: k characters. -/
def ShI (s : ByteArray) (n pos k : Nat) (acc : Bs) : Prop :=
  pos ≤ s.size ∧ k ≤ pos ∧ k + cnt (s.data.toList.drop pos) = cnt s.data.toList ∧ acc.length ≤ 4 * k ∧ acc ++ shN (cnt s.data.toList - k) (s.data.toList.drop pos) = shN (cnt s.data.toList) s.data.toList ∧ (k ≤ n → shN n s.data.toList = acc ++ shN (n - k) (s.data.toList.drop pos))
theorem shI_start (s : ByteArray) (n : Nat) : ShI s n 0 0 [] := ⟨Nat.zero_le _, Nat.le_refl _, by simp, by simp, by simp, fun _ => by simp⟩
theorem shI_step {s : ByteArray} {n pos k : Nat} {acc : Bs} (h : ShI s n pos k acc) (hp : pos < s.size) : ShI s n (pos + (Utf8.decode s pos).2) (k + 1) (acc ++ encodeRune (shR ((Utf8.decode s pos).1 : Int))) := by
  obtain ⟨h1, h2, h3, h4, h5, h6⟩ := h
  have hd := dec_le s pos hp
  have hd1 := dec_pos s pos
  have hc := cnt_at s pos hp
  have hl := (enc_len (shR ((Utf8.decode s pos).1 : Int))).2
  refine ⟨hd, by omega, by omega, by rw [List.length_append]; omega, ?_, fun hk => ?_⟩
  · rw [← h5, show cnt s.data.toList - k = (cnt s.data.toList - (k + 1)) + 1 by omega, shN_at s pos _ hp, List.append_assoc]
  · rw [h6 (by omega), show n - k = (n - (k + 1)) + 1 by omega, shN_at s pos _ hp, List.append_assoc]
theorem shI_end {s : ByteArray} {n pos k : Nat} {acc : Bs} (h : ShI s n pos k acc) (hp : ¬ pos < s.size) : acc = shN (cnt s.data.toList) s.data.toList ∧ k = cnt s.data.toList ∧ (k = n → acc = shN n s.data.toList) := by
  obtain ⟨h1, h2, h3, h4, h5, h6⟩ := h
  have hc := cnt_end s pos (by omega)
  rw [shN_end s pos _ (by omega), List.append_nil] at h5
  exact ⟨h5, by omega, fun e => by rw [h6 (by omega), shN_end s pos _ (by omega), List.append_nil]⟩
theorem shI_at {s : ByteArray} {n pos k : Nat} {acc : Bs} (h : ShI s n pos k acc) (e : k = n) : acc = shN n s.data.toList := by
  rw [h.2.2.2.2.2 (by omega), e, Nat.sub_self, shN_zero, List.append_nil]
theorem rune_hi (s : ByteArray) (p : Nat) : (Utf8.decode s p).1 ≤ 1114111 := by have := Lib.rune_le s p; omega
/-- What the walk knows of the world between two rounds. -/
structure ShW (w : World) (s : ByteArray) (pos : Nat) (acc : Bs) (W : World) : Prop where
  it : W.heap[w.heap.size + 1]? = some (.stringIter s pos)
  bd : Lib.IsBuilderF TBd TUd w.heap.size w.heap.size (Lib.byteCells acc) W
  lo : Below w.heap.size w W
theorem ShW.string {w : World} {s : ByteArray} {pos : Nat} {acc : Bs} {W : World} (h : ShW w s pos acc W) :
    Calls Tryd.prog 105 #[.pointer (some ⟨w.heap.size, 0, none⟩)] W fun e W' => e = .returned (.string ⟨acc.toArray⟩) ∧ ShW w s pos acc W' :=
  (Tryd.Builder_String_any_k w.heap.size w.heap.size acc W h.bd h.lo.size).mono fun e W' ⟨h1, h2, h3, h4⟩ => ⟨h1, h4.iter h.it (by omega), h2, h.lo.trans h3⟩
theorem ShW.rune {w : World} {s : ByteArray} {pos : Nat} {acc : Bs} {W : World} (h : ShW w s pos acc W) (r : Int) (h0 : 0 ≤ r) (h1 : r ≤ 1114111) (hl : acc.length ≤ 1099511627776 * 4) :
    Calls Tryd.prog 106 #[.pointer (some ⟨w.heap.size, 0, none⟩), .int .i32 r] W fun e W' => e = .returned (.tuple #[.int .i64 (Lib.runeCells r).length, .nilIface]) ∧ ShW w s pos (acc ++ encodeRune r) W' :=
  (Tryd.Builder_WriteRune_k w.heap.size w.heap.size (Lib.byteCells acc) r (by omega) (by omega) W h.bd (by rw [Lib.byteCells_length]; omega) h.lo.size).mono fun e W' ⟨h1, h2, h3, h4⟩ => ⟨h1, h4.iter h.it (by omega), by
    have := h2; rw [← Lib.byteCells_encodeRune] at this
    rw [show Lib.byteCells (acc ++ encodeRune r) = Lib.byteCells acc ++ Lib.byteCells (encodeRune r) by simp [Lib.byteCells]]
    exact .inr this, h.lo.trans h3⟩
theorem ShW.next {w : World} {s : ByteArray} {pos : Nat} {acc : Bs} {W : World} (h : ShW w s pos acc W) (pos' : Nat) : ShW w s pos' acc (W.iterAt (w.heap.size + 1) s pos') :=
  ⟨Lib.iterAt_heap W _ s pos pos' h.it, h.bd.iterAt h.it pos', Lib.below_iterAt h.lo (by omega) s pos'⟩
end Go.Proofs.YtdphhmigbbgjmaaDoor
end
section
namespace Go.Proofs.YtdphhmigbbgjmaaDoor
open Go.RowKit Go.Lib
attribute [local go_sem] byteAt_get wrap64_byteAt
set_option linter.unusedVariables false
/-- The first so many characters as they are shown; none, where there are not so many. -/
def ahN (n : Nat) (l : Bs) : Bs := if n ≤ cnt l then shN n l else []
set_option maxRecDepth 100000 in
set_option maxHeartbeats 16000000 in
theorem report_shown (s : ByteArray) (n : Nat) (w : World) (hs : s.size ≤ 1099511627776) (hn : n ≤ 1099511627776) :
    Calls Tryd.prog 57 #[.string s, .int .i64 n] w fun e w' => e = .returned (.tuple #[.string ⟨(shN (cnt s.data.toList) s.data.toList).toArray⟩, .string ⟨(ahN n s.data.toList).toArray⟩]) ∧ Below w.heap.size w w' := by
  go_enter Tryd.func57, Tryd.ntmps57
  go_wp2
  have hb0 := bd_new w.heap.size w (Nat.le_refl _)
  go_loopw [7, 8] (fun ah kk W => ∃ (pos k : Nat) (acc a : Bs), ah = .string ⟨a.toArray⟩ ∧ kk = .int .i64 k ∧ Hid (ShW w s pos acc W) ∧ Hid (ShI s n pos k acc) ∧ Hid (a = if n < k then shN n s.data.toList else [])) (fun _ _ W => s.size - W.iterPos (w.heap.size + 1))
  case atStart => exact ⟨0, 0, [], [], rfl, rfl, Lib.hid ⟨by have := World.iter_heap (w.alloc (.cells #[.pointer none, .slice none 0 0] TBd)) s 0; rw [World.size_alloc] at this; exact this, hb0.alloc _, ((Below.refl _ _).alloc (Nat.le_refl _) _).alloc (by simp) _⟩, Lib.hid (shI_start s n), Lib.hid (by simp)⟩
  case round =>
    obtain ⟨pos, k, acc, a, rfl, rfl, hW, hI, hA⟩ := hrel
    have hkp := hI.out.2.1
    have hps := hI.out.1
    by_cases hp : pos < s.size
    · have hnx : ∀ ty, (Instr.next (.pointer (some ⟨w.heap.size + 1, 0, none⟩)) true ty).run Tryd.prog wr = _ := fun ty => Lib.run_next_any_at wr (w.heap.size + 1) s pos ty hW.out.it hp
      have hpos1 : Hid (wr.iterPos (w.heap.size + 1) = pos) := by show _ = _; unfold World.iterPos; rw [hW.out.it]
      have hd1 := dec_pos s pos
      have hd2 := dec_le s pos hp
      have hph := rune_hi s pos
      have hI' := Lib.hid (shI_step hI.out hp)
      have hal := hI.out.2.2.2.1
      have hW2 := hW.out.next (pos + (Utf8.decode s pos).2)
      generalize hW2e : wr.iterAt (w.heap.size + 1) s (pos + (Utf8.decode s pos).2) = W2 at hnx hW2
      clear hW2e
      replace hW2 := Lib.hid hW2
      replace hI' := Lib.hid hI'.out
      generalize hS : pos + (Utf8.decode s pos).2 = S at *
      generalize (Utf8.decode s pos).1 = P at *
      have hrest : ∀ W3, ShW w s S acc W3 → ∀ r : Int, r = shR (P : Int) → Calls Tryd.prog 106 #[.pointer (some ⟨w.heap.size, 0, none⟩), .int .i32 r] W3 fun e W' => ∃ v, e = .returned v ∧ Hid (ShW w s S (acc ++ encodeRune (shR (P : Int))) W') := fun W3 h r e => by
        subst e
        exact (h.rune _ (by unfold shR; split <;> omega) (by unfold shR; split <;> omega) (by omega)).mono fun e W' ⟨h1, h2⟩ => ⟨_, h1, Lib.hid h2⟩
      have hA' : k ≠ n → (if n < k + 1 then shN n s.data.toList else []) = (if n < k then shN n s.data.toList else []) := fun h => by
        by_cases h1 : n < k
        · rw [if_pos h1, if_pos (by omega)]
        · rw [if_neg h1, if_neg (by omega)]
      have hA2 : k = n → acc = (if n < k + 1 then shN n s.data.toList else []) := fun h => by
        rw [if_pos (by omega)]; exact shI_at hI.out h
      replace hA' := Lib.hid hA'
      replace hA2 := Lib.hid hA2
      have hfin : ∀ W4, Hid (ShW w s S (acc ++ encodeRune (shR (P : Int))) W4) → Hid (W4.iterPos (w.heap.size + 1) = S) := fun W4 h => by show _ = _; unfold World.iterPos; rw [h.out.it]
      clear hW hI hal
      by_cases hc : (P : Int) < 32 ∨ (P : Int) = 127
      · have hcc : (decide ((P : Int) < 32) || ((P : Int) == 127)) = true := by simp; omega
        have hr : Hid ((32 : Int) = shR (P : Int)) := by show _ = _; unfold shR; rw [if_pos (by omega)]
        clear hc
        by_cases hkn : (k : Int) = (n : Int)
        · have hkN : k = n := by omega
          replace hA2 := Lib.hid (hA2.out hkN)
          clear hkN hA hA'
          go_wp2_with fail
          have hq := hW2.out.string
          refine hq.mono ?_
          clear hq hnx hW2
          rintro e W3 ⟨rfl, hW3⟩
          replace hW3 := Lib.hid hW3
          go_wp2_with fail
          all_goals first
          | (exfalso; omega)
          | (have hq := hrest _ hW3.out _ hr.out
             refine hq.mono ?_
             clear hrest hq hW3
             rintro e W4 ⟨v, rfl, hW4⟩
             have hp4 := hfin _ hW4
             clear hfin
             go_wp2_with fail
             go_roundw
             case rel => exact ⟨S, k + 1, acc ++ encodeRune (shR (P : Int)), acc, rfl, congrArg (Value.int IntKind.i64) (by omega), hW4, hI', hA2⟩
             case measure => rw [hpos1.out, hp4.out]; omega)
        · have hkN : k ≠ n := by omega
          replace hA2 := Lib.hid (hA.out.trans (hA'.out hkN).symm)
          have hW3 := hW2
          clear hkN hA hA'
          go_wp2_with fail
          all_goals first
          | (exfalso; omega)
          | (have hq := hrest _ hW3.out _ hr.out
             refine hq.mono ?_
             clear hrest hq hW3 hnx hW2
             rintro e W4 ⟨v, rfl, hW4⟩
             have hp4 := hfin _ hW4
             clear hfin
             go_wp2_with fail
             go_roundw
             case rel => exact ⟨S, k + 1, acc ++ encodeRune (shR (P : Int)), a, rfl, congrArg (Value.int IntKind.i64) (by omega), hW4, hI', hA2⟩
             case measure => rw [hpos1.out, hp4.out]; omega)
      · have hcc : ¬ (P : Int) < 32 := by omega
        have hcd : ((P : Int) == 127) = false := by simp; omega
        have hr : Hid ((P : Int) = shR (P : Int)) := by show _ = _; unfold shR; rw [if_neg (by omega)]
        clear hc
        by_cases hkn : (k : Int) = (n : Int)
        · have hkN : k = n := by omega
          replace hA2 := Lib.hid (hA2.out hkN)
          clear hkN hA hA'
          go_wp2_with fail
          have hq := hW2.out.string
          refine hq.mono ?_
          clear hq hnx hW2
          rintro e W3 ⟨rfl, hW3⟩
          replace hW3 := Lib.hid hW3
          go_wp2_with fail
          all_goals first
          | (exfalso; omega)
          | (have hq := hrest _ hW3.out _ hr.out
             refine hq.mono ?_
             clear hrest hq hW3
             rintro e W4 ⟨v, rfl, hW4⟩
             have hp4 := hfin _ hW4
             clear hfin
             go_wp2_with fail
             go_roundw
             case rel => exact ⟨S, k + 1, acc ++ encodeRune (shR (P : Int)), acc, rfl, congrArg (Value.int IntKind.i64) (by omega), hW4, hI', hA2⟩
             case measure => rw [hpos1.out, hp4.out]; omega)
        · have hkN : k ≠ n := by omega
          replace hA2 := Lib.hid (hA.out.trans (hA'.out hkN).symm)
          have hW3 := hW2
          clear hkN hA hA'
          go_wp2_with fail
          all_goals first
          | (exfalso; omega)
          | (have hq := hrest _ hW3.out _ hr.out
             refine hq.mono ?_
             clear hrest hq hW3 hnx hW2
             rintro e W4 ⟨v, rfl, hW4⟩
             have hp4 := hfin _ hW4
             clear hfin
             go_wp2_with fail
             go_roundw
             case rel => exact ⟨S, k + 1, acc ++ encodeRune (shR (P : Int)), a, rfl, congrArg (Value.int IntKind.i64) (by omega), hW4, hI', hA2⟩
             case measure => rw [hpos1.out, hp4.out]; omega)
    · have hnx : ∀ ty, (Instr.next (.pointer (some ⟨w.heap.size + 1, 0, none⟩)) true ty).run Tryd.prog wr = _ := fun ty => Lib.run_next_end_at wr (w.heap.size + 1) s pos ty hW.out.it hp
      obtain ⟨e1, e2, e3⟩ := shI_end hI.out hp
      have e1 := Lib.hid e1
      by_cases hkn : (k : Int) = (n : Int)
      · have hkN : k = n := by omega
        have fin : Hid (ahN n s.data.toList = acc) := by show _ = _; unfold ahN; rw [if_pos (by omega), e3 hkN]
        clear hA e3 e2 hkN
        go_wp2_with fail
        refine (hW.out.string).mono ?_
        rintro e W3 ⟨rfl, hW3⟩
        replace hW3 := Lib.hid hW3
        go_wp2_with fail
        refine (hW3.out.string).mono ?_
        rintro e W4 ⟨rfl, hW4⟩
        replace hW4 := Lib.hid hW4
        go_wp2_with fail
        go_ret2
        exact ⟨by rw [fin.out, ← e1.out]; rfl, hW4.out.lo⟩
      · have fin : Hid (ahN n s.data.toList = a) := by
          show _ = _; unfold ahN; rw [hA.out]
          by_cases h : n < k
          · rw [if_pos h, if_pos (by omega)]
          · rw [if_neg h, if_neg (by omega)]
        clear hA e3 e2
        go_wp2_with fail
        refine (hW.out.string).mono ?_
        rintro e W4 ⟨rfl, hW4⟩
        replace hW4 := Lib.hid hW4
        go_wp2_with fail
        go_ret2
        exact ⟨by rw [fin.out, ← e1.out]; rfl, hW4.out.lo⟩
end Go.Proofs.YtdphhmigbbgjmaaDoor
end
