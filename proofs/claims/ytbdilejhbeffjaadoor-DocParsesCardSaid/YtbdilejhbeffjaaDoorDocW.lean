/- doc.write: a piece's line, written into a builder. Condition on memory: the table of words, the tables and errors of strconv lie as laid. -/
import Derived.Test.YtbdilejhbeffjaaDoorUtf
import Derived.Test.YtbdilejhbeffjaaDoorHeap
import Derived.Test.YtbdilejhbeffjaaDoorBuild
import Derived.Test.YtbdilejhbeffjaaDoorShelf
import Derived.Deep.QuietTactic
import Derived.BigQuiet
import Derived.Lib.Hide
import Derived.Lib.SmallJoins
import Derived.Lib.AppendIntMem
import Derived.Lib.ItoaLen
import Derived.Laws.BitsLemmas
namespace Go.Proofs.YtbdilejhbeffjaaDoor
open Go.RowKit Go.Lib
attribute [local go_sem] byteAt_get wrap64_byteAt
set_option linter.unusedVariables false
abbrev TB : TypeId := 74
abbrev TU : TypeId := 5
abbrev TD : TypeId := 33
/-- How the kinds' lines begin. -/
def wordsL : List ByteArray := [⟨#[]⟩, ⟨#[116, 101, 120, 116, 32]⟩, ⟨#[98, 108, 97, 110, 107]⟩, ⟨#[98, 114, 101, 97, 107, 32]⟩, ⟨#[104, 97, 114, 100]⟩, ⟨#[101, 109, 112, 116, 121]⟩, ⟨#[98, 101, 103, 105, 110, 32]⟩, ⟨#[101, 110, 100]⟩]
/-- The tables that package doc and strconv read, as they are laid. -/
structure Wrds (w : World) : Prop where
  t : w.rangeAt 0 0 (wordsL.map Value.string)
  i : Lib.TabIs Tryd.prog w "internal/strconv.uint64pow10" .u64 Lib.pow10Tab
  s : ∃ te pe, w.cell? ⟨4, 0, none⟩ = some (.iface te pe)
  r : ∃ te pe, w.cell? ⟨5, 0, none⟩ = some (.iface te pe)
theorem cellLt {w : World} {b o : Nat} {v : Value} (h : w.cell? ⟨b, o, none⟩ = some v) : b < w.heap.size := by
  unfold World.cell? at h
  by_cases hb : b < w.heap.size
  · exact hb
  · simp [Array.getElem?_eq_none (Nat.le_of_not_lt hb)] at h
theorem rangeKeep {w w' : World} {b : Nat} {cs : List Value} (h : w.rangeAt b 0 cs) (hb : Below w.heap.size w w') : w'.rangeAt b 0 cs := by
  intro j v hj
  have hc := h j v hj
  exact (hb.cell (p := ⟨b, 0 + j, none⟩) (cellLt hc)).trans hc
theorem gPow : Tryd.prog.globalNamed "internal/strconv.uint64pow10" = some 6 := by kernel_rfl
theorem Wrds.below {w w' : World} (h : Wrds w) (hb : Below w.heap.size w w') : Wrds w' := by
  refine ⟨rangeKeep h.t hb, (tabBelow_of_tabIs h.i) w' hb, ?_, ?_⟩
  · obtain ⟨te, pe, hc⟩ := h.s; exact ⟨te, pe, (hb.cell (p := ⟨_, 0, none⟩) (cellLt hc)).trans hc⟩
  · obtain ⟨te, pe, hc⟩ := h.r; exact ⟨te, pe, (hb.cell (p := ⟨_, 0, none⟩) (cellLt hc)).trans hc⟩
def hexB (n : Nat) : UInt8 := ([48, 49, 50, 51, 52, 53, 54, 55, 56, 57, 97, 98, 99, 100, 101, 102] : List UInt8).getD n 0
/-- How a text's byte stands in its line. -/
def escB (c : UInt8) : List UInt8 := if c = 92 then [92, 92] else if 32 ≤ c ∧ c ≤ 126 then [c] else [92, 120, hexB (c.toNat / 16), hexB (c.toNat % 16)]
def escL (l : List UInt8) : List UInt8 := l.flatMap escB
def wordB (k : Nat) : List UInt8 := (wordsL.getD k ⟨#[]⟩).data.toList
theorem itoa_len (n : Int) (h : -9223372036854775808 ≤ n ∧ n ≤ 9223372036854775807) : (Lib.itoa n).length ≤ 21 := Lib.itoa_length_le n h.1 h.2
/-- A piece's line, without its end. -/
def lineB (k : Nat) (t : ByteArray) (b i : Int) (e : Bool) : List UInt8 :=
  wordB k ++ (if k = 1 then escL t.data.toList else if k = 3 then Lib.itoa b else if k = 6 then Lib.itoa i ++ (if e = true then [32, 101, 118, 101, 110] else []) else [])
/-- What a call that writes so much into a builder leaves. -/
def Wr (B b : Nat) (w : World) (bs : List Value) (l : List UInt8) (w' : World) : Prop := Lib.BuilderAtF TB TU B b (.pointer (some ⟨b, 0, none⟩)) (bs ++ Lib.byteCells l) w' ∧ Below B w w' ∧ Lib.OthersKept TU (some b) w w'
theorem bldBelow {T e : TypeId} {B b : Nat} {p : Value} {bs : List Value} {W W' : World} (h : Lib.BuilderAtF T e B b p bs W) (hb : Below W.heap.size W W') : Lib.BuilderAtF T e B b p bs W' := by
  have hlt := h.lt
  obtain ⟨hB, v, hv, hown, hne⟩ := h
  exact ⟨hB, v, (hb.block b hlt).trans hv, hown.kept (row := none) ⟨hb.os, hb.tape, hb.output, hb.size, fun k hk _ => hb.block k hk⟩ (Classical.em _), hne⟩
theorem oth_below {e : TypeId} {b : Option Nat} {w w' : World} (h : Below w.heap.size w w') : Lib.OthersKept e b w w' := fun k x hk _ _ => by
  have : k < w.heap.size := by
    rcases Nat.lt_or_ge k w.heap.size with h | h
    · exact h
    · rw [Array.getElem?_eq_none h] at hk; cases hk
  exact (h.block k this).trans hk
theorem Wr.later {B b : Nat} {w w1 w2 : World} {bs : List Value} {l : List UInt8} (h : Wr B b w bs l w1) (hBw : B ≤ w.heap.size) (hb : Below w1.heap.size w1 w2) : Wr B b w bs l w2 :=
  ⟨bldBelow h.1 hb, h.2.1.trans (hb.mono (Nat.le_trans hBw h.2.1.size)), h.2.2.trans (oth_below hb)⟩
theorem Wr.up {B b : Nat} {w0 w w1 : World} {bs : List Value} {l : List UInt8} (h : Wr B b w bs l w1) (hb : Below B w0 w) (ho : Lib.OthersKept TU (some b) w0 w) : Wr B b w0 bs l w1 := ⟨h.1, hb.trans h.2.1, ho.trans h.2.2⟩
theorem oth_alloc (e : TypeId) (b : Option Nat) (w : World) (o : Obj) : Lib.OthersKept e b w (w.alloc o) := fun k x hk _ _ => by
  show (w.heap.push o)[k]? = some x
  rw [Array.getElem?_push]
  have : k < w.heap.size := by
    rcases Nat.lt_or_ge k w.heap.size with h | h
    · exact h
    · rw [Array.getElem?_eq_none h] at hk; cases hk
  rw [if_neg (by omega)]; exact hk
theorem escB_len (c : UInt8) : (escB c).length ≤ 4 := by unfold escB; split; simp; split <;> simp
theorem escL_len (l : List UInt8) : (escL l).length ≤ 4 * l.length := by
  unfold escL
  induction l with
  | nil => simp
  | cons c r ih => have := escB_len c; rw [List.flatMap_cons, List.length_append, List.length_cons]; omega
theorem esc_len (t : ByteArray) (m : Nat) : (escL (t.data.toList.take m)).length ≤ 4 * m := by
  have := escL_len (t.data.toList.take m); rw [List.length_take] at this; omega
theorem esc_next (t : ByteArray) (m : Nat) (h : m < t.size) : escL (t.data.toList.take (m + 1)) = escL (t.data.toList.take m) ++ escB (t.data.toList.getD m 0) := by
  have hl : m < t.data.toList.length := by rw [size_len]; exact h
  rw [List.take_succ_eq_append_getElem hl]
  unfold escL
  rw [List.flatMap_append, List.getD_eq_getElem?_getD, List.getElem?_eq_getElem hl]
  simp
theorem Wr.drew {B b : Nat} {w w1 : World} {bs : List Value} {l : List UInt8} (h : Wr B b w bs l w1) : Wr B b w bs l w1.drew := ⟨h.1.drew, h.2.1.drew, h.2.2⟩
theorem hex_at (p : Nat) (h : p < 16) : ((⟨#[48, 49, 50, 51, 52, 53, 54, 55, 56, 57, 97, 98, 99, 100, 101, 102]⟩ : ByteArray).extract p (p + 1)).data.toList = [hexB p] :=
  (by decide +kernel : ∀ p : Fin 16, ((⟨#[48, 49, 50, 51, 52, 53, 54, 55, 56, 57, 97, 98, 99, 100, 101, 102]⟩ : ByteArray).extract p.val (p.val + 1)).data.toList = [hexB p.val]) ⟨p, h⟩
theorem esc_hex (p q : Nat) (hp : p < 16) (hq : q < 16) : ((⟨#[92, 120]⟩ : ByteArray) ++ (⟨#[48, 49, 50, 51, 52, 53, 54, 55, 56, 57, 97, 98, 99, 100, 101, 102]⟩ : ByteArray).extract p (p + 1) ++ (⟨#[48, 49, 50, 51, 52, 53, 54, 55, 56, 57, 97, 98, 99, 100, 101, 102]⟩ : ByteArray).extract q (q + 1)).data.toList = [92, 120, hexB p, hexB q] := by
  rw [ByteArray.data_append, ByteArray.data_append, Array.toList_append, Array.toList_append, hex_at p hp, hex_at q hq]; rfl
theorem byteCells_app (a c : List UInt8) : Lib.byteCells (a ++ c) = Lib.byteCells a ++ Lib.byteCells c := by simp [Lib.byteCells]
theorem Wr.size {B b : Nat} {w w1 : World} {bs : List Value} {l : List UInt8} (h : Wr B b w bs l w1) (hBw : B ≤ w.heap.size) : B ≤ w1.heap.size := Nat.le_trans hBw h.2.1.size
theorem wr_str {B b : Nat} {w w1 : World} {bs : List Value} {l : List UInt8} (h : Wr B b w bs l w1) (hBw : B ≤ w.heap.size) (s : ByteArray) (hlen : bs.length + l.length + s.size ≤ 140737488355328) :
    Calls Tryd.prog 70 #[.pointer (some ⟨b, 0, none⟩), .string s] w1 fun e w' => e = .returned (.tuple #[.int .i64 s.size, .nilIface]) ∧ Wr B b w bs (l ++ s.data.toList) w' :=
  (Tryd.Builder_WriteString_k B b (bs ++ Lib.byteCells l) s w1 (.inr h.1) (by rw [List.length_append, Lib.byteCells_length]; exact hlen) (h.size hBw)).mono fun e w' ⟨h1, h2, h3, h4⟩ => ⟨h1, by rw [byteCells_app, ← List.append_assoc]; exact h2, h.2.1.trans h3, h.2.2.trans h4⟩
theorem wr_byte {B b : Nat} {w w1 : World} {bs : List Value} {l : List UInt8} (h : Wr B b w bs l w1) (hBw : B ≤ w.heap.size) (c : UInt8) (hlen : bs.length + l.length + 1 ≤ 140737488355328) :
    Calls Tryd.prog 71 #[.pointer (some ⟨b, 0, none⟩), .int .u8 c.toNat] w1 fun e w' => e = .returned .nilIface ∧ Wr B b w bs (l ++ [c]) w' :=
  (Tryd.Builder_WriteByte_k B b (bs ++ Lib.byteCells l) c.toNat w1 (.inr h.1) (by rw [List.length_append, Lib.byteCells_length]; exact hlen) (h.size hBw)).mono fun e w' ⟨h1, h2, h3, h4⟩ => ⟨h1, by rw [byteCells_app, ← List.append_assoc]; exact h2, h.2.1.trans h3, h.2.2.trans h4⟩
theorem Blk.oth {w w' : World} {q b : Nat} {cs : Array Value} {t : TypeId} (h : Blk w q cs t) (k : Lib.OthersKept TU (some b) w w') (hq : q ≠ b) (ht : t ≠ TU) : Blk w' q cs t :=
  k q _ h (fun e => hq (Option.some.inj e)) (fun c fz e => ht (by injection e))
set_option maxHeartbeats 4000000 in
set_option maxRecDepth 100000 in
theorem doc_write (b k : Nat) (bs : List Value) (t : ByteArray) (n i : Int) (e : Bool) (w0 w : World) (hk : k < 8) (hb : Lib.IsBuilderF TB TU w0.heap.size b bs w) (hlen : bs.length + 4 * t.size ≤ 1099511627776) (h0 : Below w0.heap.size w0 w) (hT0 : Wrds w0)
    (hn : -9223372036854775808 ≤ n ∧ n ≤ 9223372036854775807) (hi : -9223372036854775808 ≤ i ∧ i ≤ 9223372036854775807) :
    Calls Tryd.prog 45 #[.pointer (some ⟨b, 0, none⟩), .agg #[.int .u8 k, .string t, .int .i64 n, .int .i64 i, .bool e]] w fun x w' => x = .returned (.tuple #[]) ∧ Wr w0.heap.size b w bs (lineB k t n i e ++ [10]) w' := by
  have hBw := h0.size
  have hTw : Hid (∀ W, Below w0.heap.size w W → Wrds W) := Lib.hid fun W h => hT0.below (h0.trans h)
  obtain ⟨B, hBB⟩ : ∃ B, w0.heap.size = B := ⟨_, rfl⟩
  rw [hBB] at hb hBw hTw ⊢
  clear h0 hT0 hBB
  have hq := Lib.hid (Blk.new w #[.int .u8 k, .string t, .int .i64 n, .int .i64 i, .bool e] TD)
  have hT1 := Lib.hid (hTw.out _ ((Below.refl _ _).alloc hBw (.cells #[.int .u8 k, .string t, .int .i64 n, .int .i64 i, .bool e] TD)))
  have hb1 := Lib.hid (hb.alloc (.cells #[.int .u8 k, .string t, .int .i64 n, .int .i64 i, .bool e] TD))
  have hBA : B ≤ (w.alloc (.cells #[.int .u8 k, .string t, .int .i64 n, .int .i64 i, .bool e] TD)).heap.size := by simp; omega
  have hwl : (wordsL.getD k ⟨#[]⟩).size ≤ 6 := by
    rcases (by omega : k = 0 ∨ k = 1 ∨ k = 2 ∨ k = 3 ∨ k = 4 ∨ k = 5 ∨ k = 6 ∨ k = 7) with rfl | rfl | rfl | rfl | rfl | rfl | rfl | rfl <;> decide
  have hcw : (w.alloc (.cells #[.int .u8 k, .string t, .int .i64 n, .int .i64 i, .bool e] TD)).cell? ⟨0, k, none⟩ = some (.string (wordsL.getD k ⟨#[]⟩)) := by
    have := hT1.out.t k (.string (wordsL.getD k ⟨#[]⟩)) (by
      rcases (by omega : k = 0 ∨ k = 1 ∨ k = 2 ∨ k = 3 ∨ k = 4 ∨ k = 5 ∨ k = 6 ∨ k = 7) with rfl | rfl | rfl | rfl | rfl | rfl | rfl | rfl <;> rfl)
    simpa using this
  have hbq : b ≠ w.heap.size := by have := hb.elim (fun h => h.lt) (fun h => h.lt); omega
  have hWS := Lib.hid (Tryd.Builder_WriteString_k B b bs (wordsL.getD k ⟨#[]⟩) _ hb1.out (by omega) hBA)
  have hup : ∀ l w', Wr B b (w.alloc (.cells #[.int .u8 k, .string t, .int .i64 n, .int .i64 i, .bool e] TD)) bs l w' → Wr B b w bs l w' := fun l w' h => h.up ((Below.refl _ _).alloc hBw _) (oth_alloc _ _ _ _)
  replace hup := Lib.hid hup
  have hTW : ∀ l w' bs', Wr B b (w.alloc (.cells #[.int .u8 k, .string t, .int .i64 n, .int .i64 i, .bool e] TD)) bs' l w' → Wrds w' := fun l w' bs' h => hTw.out _ (((Below.refl _ _).alloc hBw _).trans h.2.1)
  replace hTW := Lib.hid hTW
  generalize hW1 : w.alloc (.cells #[.int .u8 k, .string t, .int .i64 n, .int .i64 i, .bool e] TD) = W1 at *
  have q0 := hq.out.cell 0; have q1 := hq.out.cell 1; have q2 := hq.out.cell 2; have q3 := hq.out.cell 3; have q4 := hq.out.cell 4
  simp at q0 q1 q2 q3 q4
  go_enter Tryd.func45, Tryd.ntmps45
  go_wp2_with fail
  refine hWS.out.mono ?_
  rintro x w2 ⟨rfl, r1, r2, r3⟩
  have hR : Wr B b W1 bs (wordB k) w2 := ⟨r1, r2, r3⟩
  have hwb : (wordB k).length ≤ 6 := by unfold wordB; rw [Array.length_toList]; exact hwl
  have hqA := hq
  replace hq := Lib.hid (hq.out.oth r3 (fun h => hbq h.symm) (by decide))
  replace hR := Lib.hid hR
  clear r1 r2 r3 q0 q1 q2 q3 q4 hWS hcw
  have q0 := hq.out.cell 0; have q1 := hq.out.cell 1; have q2 := hq.out.cell 2; have q3 := hq.out.cell 3; have q4 := hq.out.cell 4
  simp at q0 q1 q2 q3 q4
  by_cases k1 : k = 1
  · subst k1
    go_wp2_with fail
    go_loopw [19] (fun iv W => ∃ m : Nat, iv = .int .i64 m ∧ m ≤ t.size ∧ Hid (Wr B b W1 bs (wordB 1 ++ escL (t.data.toList.take m)) W)) (fun iv _ => t.size - (RowKit.intOf iv).toNat)
    case atStart => exact ⟨0, rfl, by omega, Lib.hid (by simpa [escL] using hR.out)⟩
    case round =>
      obtain ⟨m, rfl, hm, hRm⟩ := hrel
      have hqm := Lib.hid (hqA.out.oth hRm.out.2.2 (fun h => hbq h.symm) (by decide))
      have g1 := hqm.out.cell 1
      simp at g1
      clear q0 q1 q2 q3 q4
      have hel : (escL (t.data.toList.take m)).length ≤ 4 * m := esc_len t m
      by_cases hmt : m < t.size
      · have hnext : escL (t.data.toList.take (m + 1)) = escL (t.data.toList.take m) ++ escB (t.data.toList.getD m 0) := esc_next t m hmt
        have hcb : (t.data.toList.getD m 0).toNat = byteAt t m := rfl
        have hlt : byteAt t m < 256 := byteAt_lt t m
        generalize hc : t.data.toList.getD m 0 = c at *
        have hS : ∀ (s : ByteArray), s.size ≤ 4 → Calls Tryd.prog 70 #[.pointer (some ⟨b, 0, none⟩), .string s] wr fun e w' => e = .returned (.tuple #[.int .i64 s.size, .nilIface]) ∧ Wr B b W1 bs (wordB 1 ++ escL (t.data.toList.take m) ++ s.data.toList) w' := fun s hs => wr_str hRm.out hBA s (by rw [List.length_append]; omega)
        replace hS := Lib.hid hS
        have e1 : IntKind.i64.wrap ((m : Int) + 1) = (m : Int) + 1 := IntWalk.i64_in _ (by omega)
        by_cases c1 : byteAt t m = 92
        · have ec : escB c = [92, 92] := by unfold escB; rw [if_pos (UInt8.toNat_inj.1 (by rw [hcb, c1]; rfl))]
          have c1' : ((byteAt t m : Nat) : Int) = 92 := by omega
          go_wp2_with fail
          refine (hS.out ⟨#[92, 92]⟩ (by decide)).mono ?_
          rintro x w3 ⟨rfl, hR3⟩
          replace hR3 := Lib.hid hR3
          go_wp2_with fail
          go_roundw
          case rel => exact ⟨m + 1, by go_num, by omega, Lib.hid (by rw [hnext, ec, ← List.append_assoc]; exact hR3.out)⟩
          case measure => simp [RowKit.intOf]; omega
        have c1' : ¬ ((byteAt t m : Nat) : Int) = 92 := by omega
        by_cases c2 : 32 ≤ byteAt t m ∧ byteAt t m ≤ 126
        · have c2a : (32 : Int) ≤ ((byteAt t m : Nat) : Int) := by omega
          have c2b : ((byteAt t m : Nat) : Int) ≤ 126 := by omega
          have ec : escB c = [c] := by unfold escB; rw [if_neg (fun h => by rw [h] at hcb; exact c1 hcb.symm), if_pos ⟨UInt8.le_iff_toNat_le.2 (by rw [hcb]; exact c2.1), UInt8.le_iff_toNat_le.2 (by rw [hcb]; exact c2.2)⟩]
          go_wp2_with fail
          have hWB := wr_byte hRm.out hBA c (by rw [List.length_append]; omega)
          rw [hcb] at hWB
          refine hWB.mono ?_
          rintro x w3 ⟨rfl, hR3⟩
          replace hR3 := Lib.hid hR3
          clear hWB
          go_wp2_with fail
          go_roundw
          case rel => exact ⟨m + 1, by go_num, by omega, Lib.hid (by rw [hnext, ec, ← List.append_assoc]; exact hR3.out)⟩
          case measure => simp [RowKit.intOf]; omega
        · have c3 : ((byteAt t m : Nat) : Int) < 32 ∨ 126 < ((byteAt t m : Nat) : Int) := by omega
          obtain ⟨p, hp⟩ : ∃ p : Nat, byteAt t m / 16 = p := ⟨_, rfl⟩
          obtain ⟨q, hq'⟩ : ∃ q : Nat, byteAt t m % 16 = q := ⟨_, rfl⟩
          have hpI : ((byteAt t m : Nat) : Int) / 16 = (p : Int) := by omega
          have hqI : bits .and .u8 ((byteAt t m : Nat) : Int) 15 = (q : Int) := (u8_and15 _ (by omega) (by omega)).trans (by omega)
          have wp : IntKind.u8.wrap ((p : Int) + 1) = (p : Int) + 1 := by rw [IntKind.wrap_u8]; omega
          have wq : IntKind.u8.wrap ((q : Int) + 1) = (q : Int) + 1 := by rw [IntKind.wrap_u8]; omega
          have p16 : (p : Int) + 1 ≤ 16 := by omega
          have q16 : (q : Int) + 1 ≤ 16 := by omega
          have pp : (p : Int) ≤ (p : Int) + 1 := by omega
          have qq : (q : Int) ≤ (q : Int) + 1 := by omega
          have p0 : (0 : Int) ≤ (p : Int) + 1 := by omega
          have q0 : (0 : Int) ≤ (q : Int) + 1 := by omega
          have tp : ((p : Int) + 1).toNat = p + 1 := by omega
          have tq : ((q : Int) + 1).toNat = q + 1 := by omega
          have ec : escB c = [92, 120, hexB p, hexB q] := by
            unfold escB
            rw [if_neg (fun h => by rw [h] at hcb; exact c1 hcb.symm), if_neg (fun h => c2 ⟨by have := UInt8.le_iff_toNat_le.1 h.1; rw [hcb] at this; exact this, by have := UInt8.le_iff_toNat_le.1 h.2; rw [hcb] at this; exact this⟩), hcb, hp, hq']
          have hX := esc_hex p q (by omega) (by omega)
          have hXs : bs.length + (wordB 1 ++ escL (t.data.toList.take m)).length + ((⟨#[92, 120]⟩ : ByteArray) ++ (⟨#[48, 49, 50, 51, 52, 53, 54, 55, 56, 57, 97, 98, 99, 100, 101, 102]⟩ : ByteArray).extract p (p + 1) ++ (⟨#[48, 49, 50, 51, 52, 53, 54, 55, 56, 57, 97, 98, 99, 100, 101, 102]⟩ : ByteArray).extract q (q + 1)).size ≤ 140737488355328 := by
            rw [← size_len, hX, List.length_append]; simp; omega
          replace hX := Lib.hid hX; replace hXs := Lib.hid hXs; replace ec := Lib.hid ec; replace hnext := Lib.hid hnext
          clear hp hq'
          rcases c3 with c3 | c3
          · go_wp2_with fail
            go_region_with (go_at_call 70; refine (wr_str hRm.out.drew hBA _ hXs.out).mono ?_; rintro x w3 ⟨rfl, hR3⟩; replace hR3 := Lib.hid hR3)
            go_wp2_with fail
            go_roundw
            case rel => exact ⟨m + 1, by go_num, by omega, Lib.hid (by have h9 := hR3.out; rw [hX.out] at h9; rw [hnext.out, ec.out, ← List.append_assoc]; exact h9)⟩
            case measure => simp [RowKit.intOf]; omega
          · go_wp2_with fail
            go_region_with (go_at_call 70; refine (wr_str hRm.out.drew hBA _ hXs.out).mono ?_; rintro x w3 ⟨rfl, hR3⟩; replace hR3 := Lib.hid hR3)
            go_wp2_with fail
            go_roundw
            case rel => exact ⟨m + 1, by go_num, by omega, Lib.hid (by have h9 := hR3.out; rw [hX.out] at h9; rw [hnext.out, ec.out, ← List.append_assoc]; exact h9)⟩
            case measure => simp [RowKit.intOf]; omega
      · have hmt' : ¬ ((m : Int) < (t.size : Int)) := by omega
        go_wp2_with fail
        refine (wr_str hRm.out hBA ⟨#[10]⟩ (by rw [List.length_append]; show bs.length + ((wordB 1).length + (escL (t.data.toList.take m)).length) + 1 ≤ _; omega)).mono ?_
        rintro x w5 ⟨rfl, hR5⟩
        go_wp2_with fail
        go_end0
        refine ⟨rfl, ?_⟩
        have := hup.out _ _ hR5
        have hmz : t.data.toList.take m = t.data.toList := List.take_of_length_le (by rw [size_len]; omega)
        unfold lineB
        rw [if_pos rfl]
        rw [hmz] at this
        exact this
  by_cases k3 : k = 3
  · subst k3
    have hI := Lib.hid (Tryd.strconv_Itoa n hn.1 hn.2 w2 (hTW.out _ _ _ hR.out).i)
    go_wp2_with fail
    refine hI.out.mono ?_
    rintro x w3 ⟨rfl, z1, z2, hw3⟩
    have hR3 : Hid (Wr B b W1 bs (wordB 3) w3) := Lib.hid (by rw [hw3]; exact hR.out.later hBA (below_grow _ w2 (Nat.le_refl _) z1 z2))
    clear hI hw3
    go_wp2_with fail
    refine (wr_str hR3.out hBA ⟨(Lib.itoa n).toArray⟩ (by have := itoa_len n hn; rw [Lib.size_eq]; show bs.length + (wordB 3).length + (Lib.itoa n).length ≤ _; omega)).mono ?_
    rintro x w4 ⟨rfl, hR4⟩
    replace hR4 := Lib.hid hR4
    go_wp2_with fail
    refine (wr_str hR4.out hBA ⟨#[10]⟩ (by have := itoa_len n hn; rw [List.length_append]; show bs.length + ((wordB 3).length + (Lib.itoa n).length) + 1 ≤ _; omega)).mono ?_
    rintro x w5 ⟨rfl, hR5⟩
    go_wp2_with fail
    go_end0
    refine ⟨rfl, ?_⟩
    have := hup.out _ _ hR5
    unfold lineB
    rw [if_neg (by decide), if_pos rfl]
    simpa using this
  by_cases k6 : k = 6
  · subst k6
    have hI := Lib.hid (Tryd.strconv_Itoa i hi.1 hi.2 w2 (hTW.out _ _ _ hR.out).i)
    have hil := itoa_len i hi
    go_wp2_with fail
    refine hI.out.mono ?_
    rintro x w3 ⟨rfl, z1, z2, hw3⟩
    have hR3 : Hid (Wr B b W1 bs (wordB 6) w3) := Lib.hid (by rw [hw3]; exact hR.out.later hBA (below_grow _ w2 (Nat.le_refl _) z1 z2))
    replace hq := Lib.hid (show Blk w3 w.heap.size _ _ by rw [hw3]; exact hq.out.below' (below_grow _ w2 (Nat.le_refl _) z1 z2))
    clear hI hw3
    go_wp2_with fail
    refine (wr_str hR3.out hBA ⟨(Lib.itoa i).toArray⟩ (by rw [Lib.size_eq]; show bs.length + (wordB 6).length + (Lib.itoa i).length ≤ _; omega)).mono ?_
    rintro x w4 ⟨rfl, hR4⟩
    replace hq := Lib.hid (hqA.out.oth hR4.2.2 (fun h => hbq h.symm) (by decide))
    replace hR4 := Lib.hid hR4
    clear q0 q1 q2 q3 q4
    have q4 := hq.out.cell 4
    simp at q4
    cases e with
    | true =>
      go_wp2_with fail
      refine (wr_str hR4.out hBA ⟨#[32, 101, 118, 101, 110]⟩ (by rw [List.length_append]; show bs.length + ((wordB 6).length + (Lib.itoa i).length) + 5 ≤ _; omega)).mono ?_
      rintro x w5 ⟨rfl, hR5⟩
      replace hR5 := Lib.hid hR5
      go_wp2_with fail
      refine (wr_str hR5.out hBA ⟨#[10]⟩ (by rw [List.length_append, List.length_append]; show bs.length + ((wordB 6).length + (Lib.itoa i).length + 5) + 1 ≤ _; omega)).mono ?_
      rintro x w6 ⟨rfl, hR6⟩
      go_wp2_with fail
      go_end0
      refine ⟨rfl, ?_⟩
      have := hup.out _ _ hR6
      unfold lineB
      rw [if_neg (by decide), if_neg (by decide), if_pos rfl, if_pos rfl]
      simpa using this
    | false =>
      go_wp2_with fail
      refine (wr_str hR4.out hBA ⟨#[10]⟩ (by rw [List.length_append]; show bs.length + ((wordB 6).length + (Lib.itoa i).length) + 1 ≤ _; omega)).mono ?_
      rintro x w6 ⟨rfl, hR6⟩
      go_wp2_with fail
      go_end0
      refine ⟨rfl, ?_⟩
      have := hup.out _ _ hR6
      unfold lineB
      rw [if_neg (by decide), if_neg (by decide), if_pos rfl, if_neg (by simp)]
      simpa using this
  have n1 : ¬ ((k : Int) = 1) := by omega
  have n3 : ¬ ((k : Int) = 3) := by omega
  have n6 : ¬ ((k : Int) = 6) := by omega
  have hl : lineB k t n i e = wordB k := by unfold lineB; rw [if_neg k1, if_neg k3, if_neg k6, List.append_nil]
  go_wp2_with fail
  refine (wr_str hR.out hBA ⟨#[10]⟩ (by show bs.length + (wordB k).length + 1 ≤ _; omega)).mono ?_
  rintro x w3 ⟨rfl, hR3⟩
  go_wp2_with fail
  go_end0
  exact ⟨rfl, by rw [hl]; exact hup.out _ _ hR3⟩
end Go.Proofs.YtbdilejhbeffjaaDoor
