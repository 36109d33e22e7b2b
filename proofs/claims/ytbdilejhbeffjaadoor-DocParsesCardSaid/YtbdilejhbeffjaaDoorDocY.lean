/- doc.Print: a layout's text, line by line. Condition on memory: the tables of package doc and strconv lie as laid. -/
import Derived.Test.YtbdilejhbeffjaaDoorDocX
import Derived.Test.YtbdilejhbeffjaaDoorPDoc3
namespace Go.Proofs.YtbdilejhbeffjaaDoor
open Go.RowKit Go.Lib Go.Proofs.YtbdilejhbeffjaaDoorW.PrintWords
attribute [local go_sem] byteAt_get wrap64_byteAt
open PDoc
set_option linter.unusedVariables false
set_option linter.unusedSimpArgs false
/-- A piece's line with its end. -/
def lnB (d : S33) : List UInt8 := lineB d.f0.toNat d.f1 d.f2 d.f3 d.f4 ++ [10]
def linesB (l : List S33) : List UInt8 := l.flatMap lnB
/-- What the walk of a piece asks. -/
def okD (d : S33) : Bool := decide (0 ≤ d.f0) && decide (d.f0 < 8) && decide (d.f1.size ≤ 65535) && decide (-9223372036854775808 ≤ d.f2) && decide (d.f2 ≤ 9223372036854775807) && decide (-9223372036854775808 ≤ d.f3) && decide (d.f3 ≤ 9223372036854775807)
def doc_Print.f (l : List S33) : Option (ByteArray × Int) :=
  (doc_Check.f (4 * l.length + 50) l).bind fun r =>
    if r.1 = 0 then (if l.length ≤ 2097152 ∧ l.all okD = true then (if 4194304 < (linesB l).length then some (⟨#[]⟩, 2) else some (⟨(linesB l).toArray⟩, 0)) else none)
    else some (⟨#[]⟩, r.1)
theorem bldNew' (B : Nat) (w : World) (h : B ≤ w.heap.size) : Lib.IsBuilderF TB TU B w.heap.size [] (w.alloc (.cells #[.pointer none, .slice none 0 0] TB)) :=
  .of (.inl ⟨h, .slice none 0 0, by show (w.heap.push _)[w.heap.size]? = _; rw [Array.getElem?_push, if_pos rfl], World.ownsRow_nil _ _ _ _, by simp [Value.ownBlock]⟩)
theorem escL_len' (l : List UInt8) : (escL l).length ≤ 4 * l.length := escL_len l
theorem lnB_len (d : S33) (h : okD d = true) : (lnB d).length ≤ 262200 := by
  unfold okD at h
  simp only [Bool.and_eq_true, decide_eq_true_eq] at h
  obtain ⟨⟨⟨⟨⟨⟨h0, h1⟩, h2⟩, h3⟩, h4⟩, h5⟩, h6⟩ := h
  obtain ⟨k, hk⟩ : ∃ k, d.f0.toNat = k := ⟨_, rfl⟩
  have hk8 : k < 8 := by omega
  have hw : (wordB k).length ≤ 6 := by
    rcases (by omega : k = 0 ∨ k = 1 ∨ k = 2 ∨ k = 3 ∨ k = 4 ∨ k = 5 ∨ k = 6 ∨ k = 7) with rfl | rfl | rfl | rfl | rfl | rfl | rfl | rfl <;> decide
  unfold lnB lineB
  rw [hk, List.length_append, List.length_append, List.length_singleton]
  have ht := escL_len' d.f1.data.toList
  rw [size_len] at ht
  have i1 := itoa_len d.f2 ⟨h3, h4⟩
  have i2 := itoa_len d.f3 ⟨h5, h6⟩
  split
  · omega
  · split
    · omega
    · split
      · rw [List.length_append]; split <;> simp <;> omega
      · simp; omega
theorem linesB_take (l : List S33) (m : Nat) (h : m < l.length) : linesB (l.take (m + 1)) = linesB (l.take m) ++ lnB (l.getD m z33) := by
  unfold linesB
  rw [List.take_succ_eq_append_getElem h, List.flatMap_append, List.getD_eq_getElem?_getD, List.getElem?_eq_getElem h]
  simp
theorem linesB_mono (l : List S33) (m : Nat) : (linesB (l.take m)).length ≤ (linesB l).length := by
  unfold linesB
  conv => rhs; rw [← List.take_append_drop m l]
  rw [List.flatMap_append, List.length_append]; omega
set_option maxHeartbeats 8000000 in
set_option maxRecDepth 100000 in
theorem doc_Print.calls (A0 : Option Addr) (c0 : Nat) (l0 : List S33) (r1 : ByteArray) (r2 : Int) (w : World) (hr0 : Kd.C k33 w A0 l0.length l0) (hc0 : l0.length ≤ c0) (h : doc_Print.f l0 = some (r1, r2)) (hT : Wrds w) :
    Calls Tryd.prog 25 #[.slice A0 l0.length c0] w fun e w' => e = .returned (.tuple #[.string r1, .int .i64 r2]) ∧ Below w.heap.size w w' := by
  unfold doc_Print.f at h
  obtain ⟨⟨e1, e2⟩, hC, h⟩ := Option.bind_eq_some_iff.1 h
  have cC := Lib.hid (doc_Check.calls _ A0 c0 l0 e1 e2 w hr0 hc0 hC)
  clear hC
  by_cases he : e1 = 0
  · subst he
    rw [if_pos rfl] at h
    by_cases hg : l0.length ≤ 2097152 ∧ l0.all okD = true
    · rw [if_pos hg] at h
      replace h := Lib.hid h
      go_enter Tryd.func25, Tryd.ntmps25
      go_wp2_with fail
      refine cC.out.mono ?_
      rintro x_ w1 ⟨rfl, b1⟩
      have b1z := b1.size
      have hbA := Lib.hid (b1.alloc b1z (.cells #[.pointer none, .slice none 0 0] TB))
      have hbl := Lib.hid (bldNew' w.heap.size w1 b1z)
      go_wp2_with fail
      have hall := hg.2
      have hlen9 := hg.1
      have hTw : Hid (∀ W, Below w.heap.size w W → Wrds W) := Lib.hid fun W hW => hT.below hW
      go_loopw [19] (fun iv W => ∃ m : Nat, iv = .int .i64 m ∧ m ≤ l0.length ∧ Hid (Lib.IsBuilderF TB TU w.heap.size w1.heap.size (Lib.byteCells (linesB (l0.take m))) W) ∧ Hid (Below w.heap.size w W) ∧ Hid ((linesB (l0.take m)).length ≤ 4194304 + 262200)) (fun iv _ => l0.length - (RowKit.intOf iv).toNat)
      case atStart => exact ⟨0, rfl, by omega, Lib.hid (by simpa [linesB, Lib.byteCells] using hbl.out), hbA, Lib.hid (by simp [linesB])⟩
      case round =>
        obtain ⟨m, rfl, hm, hB, hbb, hle⟩ := hrel
        have hzz := hbb.out.size
        have hmono := linesB_mono l0 m
        by_cases hml : m < l0.length
        · have hmlI : (m : Int) < (l0.length : Int) := by omega
          obtain ⟨ad, hA, g0, g1, g2, g3, g4⟩ := at_T33 (Kd.C_below hr0 hbb.out) (m : Int) (by omega) (by omega)
          subst hA
          have hnext := linesB_take l0 m hml
          have hok : okD (l0.getD m z33) = true := List.all_eq_true.1 hall _ (by rw [List.getD_eq_getElem?_getD, List.getElem?_eq_getElem hml]; exact List.getElem_mem hml)
          have hll := lnB_len _ hok
          simp only [Int.toNat_natCast] at g0 g1 g2 g3 g4
          have hrd : rd_T33 l0 (m : Int) = l0.getD m z33 := rfl
          rw [hrd] at g0 g1 g2 g3 g4
          generalize l0.getD m z33 = d at *
          obtain ⟨f0, t, n, i, e⟩ := d
          simp only at g0 g1 g2 g3 g4
          unfold okD at hok
          simp only [Bool.and_eq_true, decide_eq_true_eq] at hok
          obtain ⟨⟨⟨⟨⟨⟨k0, k1⟩, k2⟩, k3⟩, k4⟩, k5⟩, k6⟩ := hok
          obtain ⟨k, rfl⟩ := Int.eq_ofNat_of_zero_le k0
          replace hnext := Lib.hid hnext; replace hll := Lib.hid hll
          have hB4 := Lib.hid (hB.out.alloc (.cells #[.int .u8 (k : Int), .string t, .int .i64 n, .int .i64 i, .bool e] TD))
          have hb4 := Lib.hid (hbb.out.alloc hzz (.cells #[.int .u8 (k : Int), .string t, .int .i64 n, .int .i64 i, .bool e] TD))
          have cL := Tryd.Builder_Len_f _ _ _ _ hB4.out
          rw [Lib.byteCells_length] at cL
          replace cL := Lib.hid cL
          by_cases hgt : 4194304 < (linesB (l0.take m)).length
          · have hgtI : (4194304 : Int) < ((linesB (l0.take m)).length : Int) := by omega
            have hE := h.out
            rw [if_pos (by omega)] at hE
            have hE := Option.some.inj hE
            simp only [Prod.mk.injEq] at hE
            obtain ⟨rfl, rfl⟩ := hE
            clear hall hTw hr0 hT hmono hB hbb
            go_wp2_with (go_at_call 44; refine cL.out.mono ?_; rintro x_ w4 ⟨rfl, h_⟩; subst h_)
            go_ret2
            exact ⟨rfl, hb4.out⟩
          · have hgtI : ¬ ((4194304 : Int) < ((linesB (l0.take m)).length : Int)) := by omega
            have cW : Calls Tryd.prog 45 #[.pointer (some ⟨w1.heap.size, 0, none⟩), .agg #[.int .u8 (k : Int), .string t, .int .i64 n, .int .i64 i, .bool e]] (wr.alloc (.cells #[.int .u8 (k : Int), .string t, .int .i64 n, .int .i64 i, .bool e] TD)) fun x w' => x = .returned (.tuple #[]) ∧ Wr w.heap.size w1.heap.size (wr.alloc (.cells #[.int .u8 (k : Int), .string t, .int .i64 n, .int .i64 i, .bool e] TD)) (Lib.byteCells (linesB (l0.take m))) (lineB k t n i e ++ [10]) w' := doc_write w1.heap.size k _ t n i e w _ (by omega) hB4.out (by rw [Lib.byteCells_length]; omega) hb4.out hT ⟨k3, k4⟩ ⟨k5, k6⟩
            replace cW := Lib.hid cW
            clear hall hTw hr0 hmono hB hbb
            go_wp2_with (go_at_call 44; refine cL.out.mono ?_; rintro x_ w4 ⟨rfl, h_⟩; subst h_)
            refine cW.out.mono ?_
            rintro x_ w5 ⟨rfl, hW⟩
            replace hW := Lib.hid hW
            clear cW cL
            go_wp2_with fail
            go_roundw
            case rel => exact ⟨m + 1, by go_num, by omega, Lib.hid (by rw [hnext.out]; unfold lnB; simp only [Int.toNat_natCast]; rw [byteCells_app]; exact .inr hW.out.1), Lib.hid (hb4.out.trans hW.out.2.1), Lib.hid (by have := hll.out; rw [hnext.out, List.length_append]; omega)⟩
            case measure => simp [RowKit.intOf]; omega
        · obtain rfl : m = l0.length := by omega
          have hB4 := hB
          rw [List.take_length] at hB4
          have cL := Tryd.Builder_Len_f _ _ _ _ hB4.out
          rw [Lib.byteCells_length] at cL
          replace cL := Lib.hid cL
          by_cases hgt : 4194304 < (linesB l0).length
          · have hgtI : (4194304 : Int) < ((linesB l0).length : Int) := by omega
            have hE := h.out
            rw [if_pos hgt] at hE
            have hE := Option.some.inj hE
            simp only [Prod.mk.injEq] at hE
            obtain ⟨rfl, rfl⟩ := hE
            clear hall hTw hr0 hT hmono hB
            go_wp2_with (go_at_call 44; refine cL.out.mono ?_; rintro x_ w4 ⟨rfl, h_⟩; obtain rfl : wr = w4 := h_.symm)
            go_ret2
            exact ⟨rfl, hbb.out⟩
          · have hgtI : ¬ ((4194304 : Int) < ((linesB l0).length : Int)) := by omega
            have hE := h.out
            rw [if_neg hgt] at hE
            have hE := Option.some.inj hE
            simp only [Prod.mk.injEq] at hE
            obtain ⟨rfl, rfl⟩ := hE
            have cS := Lib.hid (Tryd.Builder_String_any_k _ _ _ _ hB4.out hzz)
            clear hall hTw hr0 hT hmono hB
            go_wp2_with (go_at_call 44; refine cL.out.mono ?_; rintro x_ w4 ⟨rfl, h_⟩; obtain rfl : wr = w4 := h_.symm)
            refine cS.out.mono ?_
            rintro x_ w5 ⟨rfl, _, b5, _⟩
            go_wp2_with fail
            go_ret2
            exact ⟨rfl, hbb.out.trans b5⟩
    · rw [if_neg hg] at h; cases h
  · rw [if_neg he] at h
    have h := Option.some.inj h
    simp only [Prod.mk.injEq] at h
    obtain ⟨rfl, rfl⟩ := h
    go_enter Tryd.func25, Tryd.ntmps25
    go_wp2_with fail
    refine cC.out.mono ?_
    rintro x_ w1 ⟨rfl, b1⟩
    go_wp2_with fail
    go_ret2
    exact ⟨rfl, b1⟩
end Go.Proofs.YtbdilejhbeffjaaDoor
