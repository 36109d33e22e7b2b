/- doc.read: a line read as a piece. Condition on memory: the tables of package doc and strconv lie as laid. -/
import Derived.Test.YtbdilejhbeffjaaDoorDocX
import Derived.Test.YtbdilejhbeffjaaDoorPDoc2
import Derived.Test.YtbdilejhbeffjaaDoorLateB
import Derived.Deep.MidRow
import Derived.Lib.AtoiAllCases
import Derived.Lib.AtoiErrMem
namespace Go.Proofs.YtbdilejhbeffjaaDoor
open Go.RowKit Go.Lib Go.Proofs.YtbdilejhbeffjaaDoorW.PrintWords
attribute [local go_sem] byteAt_get wrap64_byteAt
open PDoc
set_option linter.unusedVariables false
set_option linter.unusedSimpArgs false
/-- What strconv.Atoi tells of a text, whatever the text is. -/
def atoiV (l : List UInt8) : Int := match Lib.atoiAll l with
  | .ok v => v
  | .range => Lib.atoiSat l
  | _ => 0
theorem atoiV_bd (l : List UInt8) : -9223372036854775808 ≤ atoiV l ∧ atoiV l ≤ 9223372036854775807 := by
  unfold atoiV
  split
  · rename_i v h; exact Lib.atoiAll_bounds h
  · unfold Lib.atoiSat; split <;> omega
  · omega
theorem atoi_c (s : ByteArray) (w : World) (hs : s.size ≤ 281474976710656) (hT : Wrds w) :
    Calls Tryd.prog 78 #[.string s] w fun e w' => (∃ ev, e = .returned (.tuple #[.int .i64 (atoiV s.data.toList), ev])) ∧ Below w.heap.size w w' := by
  obtain ⟨ts, ps, hcs⟩ := hT.s
  obtain ⟨tr, pr, hcr⟩ := hT.r
  unfold atoiV
  cases h : Lib.atoiAll s.data.toList with
  | ok v =>
    refine (Tryd.strconv_Atoi_ok s (by omega) v h w).mono ?_
    rintro e w' ⟨rfl, h2⟩
    refine ⟨⟨_, rfl⟩, ?_⟩
    rcases h2 with rfl | ⟨t, rfl⟩
    · exact Below.refl _ _
    · exact bytesWorld_below _ _ _
  | range =>
    refine (Tryd.strconv_Atoi_range s hs h _ w hcr (.inr ⟨tr, pr, rfl⟩)).mono ?_
    rintro e w' ⟨N, rfl, _, _, hb⟩
    exact ⟨⟨_, rfl⟩, hb⟩
  | _ =>
    refine (Any.strconv_Atoi_syntax Tryd.laysC172 s hs h _ w hcs (.inr ⟨ts, ps, rfl⟩)).mono ?_
    rintro e w' ⟨N, rfl, _, _, hb⟩
    exact ⟨⟨_, rfl⟩, hb⟩
/-- The kind whose word a line begins with; 0: none. -/
def readK (l : List UInt8) : Nat := if Lib.hasPrefix l (wordB 1) = true then 1 else if Lib.hasPrefix l (wordB 2) = true then 2 else if Lib.hasPrefix l (wordB 3) = true then 3 else if Lib.hasPrefix l (wordB 4) = true then 4
  else if Lib.hasPrefix l (wordB 5) = true then 5 else if Lib.hasPrefix l (wordB 6) = true then 6 else if Lib.hasPrefix l (wordB 7) = true then 7 else 0
def evenW : ByteArray := ⟨#[32, 101, 118, 101, 110]⟩
/-- A piece that was read, and whether the line is its. -/
def readEnd (s : ByteArray) (k : Nat) (t : ByteArray) (b i : Int) (e : Bool) : Option (Int × ByteArray × Int × Int × Bool × Bool) :=
  if 4 * t.size ≤ 1099511627776 then some ((k : Int), t, b, i, e, rightB ⟨k, t, b, i, e⟩ && decide (lineB k t b i e = s.data.toList)) else none
def doc_read.f (s : ByteArray) : Option (Int × ByteArray × Int × Int × Bool × Bool) :=
  if s.size ≤ 1099511627776 then
    (match readK s.data.toList with
    | 0 => some (0, ⟨#[]⟩, 0, 0, false, false)
    | 1 => (doc_unescaped.f (4 * s.size + 50) (cutS s 5 s.size)).bind fun t => readEnd s 1 t 0 0 false
    | 3 => readEnd s 3 ⟨#[]⟩ (atoiV (cutS s 6 s.size).data.toList) 0 false
    | 6 => (strings_CutSuffix.f (cutS s 6 s.size) evenW).bind fun r => readEnd s 6 ⟨#[]⟩ 0 (atoiV r.1.data.toList) r.2
    | k => readEnd s k ⟨#[]⟩ 0 0 false)
  else none
theorem bldNew (B : Nat) (w : World) (h : B ≤ w.heap.size) : Lib.IsBuilderF TB TU B w.heap.size [] (w.alloc (.cells #[.pointer none, .slice none 0 0] TB)) :=
  .of (.inl ⟨h, .slice none 0 0, by show (w.heap.push _)[w.heap.size]? = _; rw [Array.getElem?_push, if_pos rfl], World.ownsRow_nil _ _ _ _, by simp [Value.ownBlock]⟩)
theorem isBldBelow {T e : TypeId} {B b : Nat} {bs : List Value} {W W' : World} (h : Lib.IsBuilderF T e B b bs W) (hb : Below W.heap.size W W') : Lib.IsBuilderF T e B b bs W' := h.elim (fun x => .inl (bldBelow x hb)) (fun x => .inr (bldBelow x hb))
theorem end_eq (L : List UInt8) (a : ByteArray) : (L ++ [10] == (a ++ (⟨#[10]⟩ : ByteArray)).toList) = decide (L = a.data.toList) := by
  rw [Lib.toList_data, ByteArray.data_append, Array.toList_append, Bool.eq_iff_iff, beq_iff_eq, decide_eq_true_eq]
  show L ++ [10] = a.data.toList ++ [10] ↔ _
  exact List.append_left_inj [10]
theorem cut_le (s : ByteArray) (a b : Nat) : (cutS s a b).size ≤ s.size := by unfold cutS; simp; omega
theorem suffix_le {s p r : ByteArray} {e : Bool} (h : strings_CutSuffix.f s p = some (r, e)) : r.size ≤ s.size := by
  unfold strings_CutSuffix.f stringslite_CutSuffix.f at h
  obtain ⟨⟨r1, e1⟩, h1, h2⟩ := Option.bind_eq_some_iff.1 h
  obtain ⟨b, h3, h4⟩ := Option.bind_eq_some_iff.1 h1
  simp only [Option.some.injEq, Prod.mk.injEq] at h2
  obtain ⟨rfl, rfl⟩ := h2
  split at h4
  · split at h4
    · split at h4
      · simp only [Option.some.injEq, Prod.mk.injEq] at h4
        rw [← h4.1]; exact cut_le _ _ _
      · cases h4
    · cases h4
  · simp only [Option.some.injEq, Prod.mk.injEq] at h4
    rw [← h4.1]; exact Nat.le_refl _
theorem hasPrefix_len {l p : List UInt8} (h : Lib.hasPrefix l p = true) : p.length ≤ l.length := by
  unfold Lib.hasPrefix at h
  exact (List.isPrefixOf_iff_prefix.1 h).length_le
theorem idxW (i : Nat) (hi : i < 8) (w : World) :
    (Instr.index 112 (.agg (wordsL.map Value.string).toArray) (.int .i64 i)).run Tryd.prog w = .ok (.string (wordsL.getD i ⟨#[]⟩)) w := by
  rcases (by omega : i = 0 ∨ i = 1 ∨ i = 2 ∨ i = 3 ∨ i = 4 ∨ i = 5 ∨ i = 6 ∨ i = 7) with rfl | rfl | rfl | rfl | rfl | rfl | rfl | rfl <;>
    simp [Instr.index, run_underlying Tryd.underlying112, asIntOf, part, Tryd.isAgg9, Tryd.sizeOf9, go_sem, wordsL]
set_option maxHeartbeats 16000000 in
set_option maxRecDepth 100000 in
theorem doc_read.calls (a0 : ByteArray) (r1 : Int) (r2 : ByteArray) (r3 : Int) (r4 : Int) (r5 : Bool) (r6 : Bool) (w : World) (h : doc_read.f a0 = some (r1, r2, r3, r4, r5, r6)) (hT : Wrds w) :
    Calls Tryd.prog 49 #[.string a0] w fun e w' => e = .returned (.tuple #[.agg #[.int .u8 r1, .string r2, .int .i64 r3, .int .i64 r4, .bool r5], .bool r6]) ∧ Below w.heap.size w w' := by
  unfold doc_read.f at h
  by_cases hs : a0.size ≤ 1099511627776
  · rw [if_pos hs] at h
    have hI := idxW
    have hT1 := Lib.hid (hT.below ((Below.refl _ _).alloc (Nat.le_refl _) (.cells #[.int .u8 0, .string ⟨#[]⟩, .int .i64 0, .int .i64 0, .bool false] TD)))
    have hR0 := Lib.hid (Blk.new w #[.int .u8 0, .string ⟨#[]⟩, .int .i64 0, .int .i64 0, .bool false] TD)
    have hB0 := Lib.hid ((Below.refl w.heap.size w).alloc (Nat.le_refl _) (.cells #[.int .u8 0, .string ⟨#[]⟩, .int .i64 0, .int .i64 0, .bool false] TD))
    replace h := Lib.hid h
    go_enter Tryd.func49, Tryd.ntmps49
    go_wp2_with (refine wpList_load_mid rfl 112 _ rfl 0 0 rfl (wordsL.map Value.string) _ hT1.out.t Tryd.underlying112 rfl (by kernel_rfl) ?_)
    generalize (List.map Value.string wordsL).toArray = A at *
    replace hI := Lib.hid hI
    go_loopw [10] (fun iv W => ∃ j : Nat, iv = .int .i64 j ∧ j ≤ 8 ∧ Hid (∀ i, 1 ≤ i → i < j → Lib.hasPrefix a0.data.toList (wordB i) = false) ∧ Below w.heap.size w W ∧ Hid (Blk W w.heap.size #[.int .u8 0, .string ⟨#[]⟩, .int .i64 0, .int .i64 0, .bool false] TD)) (fun iv _ => 8 - (RowKit.intOf iv).toNat)
    case atStart => exact ⟨0, rfl, by omega, Lib.hid (fun i h1 h2 => by omega), hB0.out, hR0⟩
    case round =>
      obtain ⟨j, rfl, hj, hno, hbb, hR⟩ := hrel
      by_cases h8 : j < 8
      · skip
        rcases (by omega : j = 0 ∨ j = 1 ∨ j = 2 ∨ j = 3 ∨ j = 4 ∨ j = 5 ∨ j = 6 ∨ j = 7) with rfl | rfl | rfl | rfl | rfl | rfl | rfl | rfl
        · have hx : ∀ W, (Instr.index 112 (.agg A) (.int .i64 0)).run Tryd.prog W = .ok (.string (⟨#[]⟩ : ByteArray)) W := fun W => hI.out 0 (by omega) W
          go_wp2
          go_roundw
          case rel => exact ⟨1, by go_num, by omega, Lib.hid (fun i h1 h2 => by omega), hbb, hR⟩
          case measure => simp [RowKit.intOf]
        · have hx : ∀ W, (Instr.index 112 (.agg A) (.int .i64 1)).run Tryd.prog W = .ok (.string (⟨#[116, 101, 120, 116, 32]⟩ : ByteArray)) W := fun W => hI.out 1 (by omega) W
          have cP := Tryd.strings_HasPrefix a0 (⟨#[116, 101, 120, 116, 32]⟩ : ByteArray) wr
          by_cases hp : Lib.hasPrefix a0.data.toList (⟨#[116, 101, 120, 116, 32]⟩ : ByteArray).data.toList = true
          · rw [hp] at cP
            have hpl : (5 : Int) ≤ (a0.size : Int) := by
              have h7 := hasPrefix_len hp; have h8 := size_len a0; have h9 : (⟨#[116, 101, 120, 116, 32]⟩ : ByteArray).data.toList.length = 5 := by decide
              omega
            have hrk : readK a0.data.toList = 1 := by
              unfold readK
              rw [if_pos (show Lib.hasPrefix a0.data.toList (wordB 1) = true from hp)]
            have hE := h.out
            rw [hrk] at hE
            clear hno hI
            replace cP := Lib.hid cP; replace hp := Lib.hid hp; replace hrk := Lib.hid hrk; replace hE := Lib.hid hE; replace hpl := hpl
            have hzz := hbb.size
            have hlt9 := hR.out.lt
            have hq := Lib.hid (Blk.new wr #[.int .u8 1, .string ⟨#[]⟩, .int .i64 0, .int .i64 0, .bool false] TD)
            have hbq := Lib.hid (hbb.alloc hzz (.cells #[.int .u8 1, .string ⟨#[]⟩, .int .i64 0, .int .i64 0, .bool false] TD))
            have hRq := Lib.hid (hR.out.alloc (.cells #[.int .u8 1, .string ⟨#[]⟩, .int .i64 0, .int .i64 0, .bool false] TD))
            go_wp2_with (go_at_call 76; refine cP.out.mono ?_; rintro x_ w' ⟨rfl, h_⟩; obtain rfl : wr = w' := h_.symm)
            have hE := hE.out
            (try simp only at hE)
            obtain ⟨t, ht, hE⟩ := Option.bind_eq_some_iff.1 hE
            have htl : 4 * t.size ≤ 1099511627776 := by
              unfold readEnd at hE
              by_cases c9 : 4 * t.size ≤ 1099511627776
              · exact c9
              · rw [if_neg c9] at hE; cases hE
            replace hE := Lib.hid hE
            refine (doc_unescaped.calls _ _ t _ ht).mono ?_
            rintro x_ w1 ⟨rfl, b1⟩
            have t1 := (hq.out.below' b1).frozen 1
            have s0 := (hq.out.below' b1).cell 0; simp at s0
            have s1 := (hq.out.below' b1).cell 1; simp at s1
            have s2 := (hq.out.below' b1).cell 2; simp at s2
            have s3 := (hq.out.below' b1).cell 3; simp at s3
            have s4 := (hq.out.below' b1).cell 4; simp at s4
            have hv : wr.heap.size < w1.heap.size := (hq.out.below' b1).lt
            replace hRq : Hid (Blk (w1.setCell ⟨wr.heap.size, 1, none⟩ (.string t)) w.heap.size #[.int .u8 0, .string ⟨#[]⟩, .int .i64 0, .int .i64 0, .bool false] TD) := Lib.hid ((hRq.out.below' b1).other _ _ (fun e => by have e : wr.heap.size = w.heap.size := e; omega))
            replace hq : Hid (Blk (w1.setCell ⟨wr.heap.size, 1, none⟩ (.string t)) wr.heap.size #[.int .u8 1, .string t, .int .i64 0, .int .i64 0, .bool false] TD) := Lib.hid ((hq.out.below' b1).set 1 (.string t))
            replace hbq : Hid (Below w.heap.size w (w1.setCell ⟨wr.heap.size, 1, none⟩ (.string t))) := Lib.hid (below_set (hbq.out.trans (b1.mono hbq.out.size)) hzz)
            clear b1 ht
            replace htl := Lib.hid htl
            go_wp2_with fail
            have hzX := hbq.out.size
            have hzs : (w1.setCell ⟨wr.heap.size, 1, none⟩ (.string t)).heap.size = w1.heap.size := by simp
            have hbld : Lib.IsBuilderF TB TU w.heap.size (w1.heap.size) [] ((w1.setCell ⟨wr.heap.size, 1, none⟩ (.string t)).alloc (.cells #[.pointer none, .slice none 0 0] TB)) := by have := bldNew w.heap.size (w1.setCell ⟨wr.heap.size, 1, none⟩ (.string t)) hzX; rw [hzs] at this; exact this
            have hbX := Lib.hid (hbq.out.alloc hzX (.cells #[.pointer none, .slice none 0 0] TB))
            have hqX := Lib.hid (hq.out.alloc (.cells #[.pointer none, .slice none 0 0] TB))
            have hRX := Lib.hid (hRq.out.alloc (.cells #[.pointer none, .slice none 0 0] TB))
            have hqlt := hq.out.lt
            have hRlt := hRq.out.lt
            have cW : Calls Tryd.prog 45 #[.pointer (some ⟨w1.heap.size, 0, none⟩), .agg #[.int .u8 1, .string t, .int .i64 0, .int .i64 0, .bool false]] ((w1.setCell ⟨wr.heap.size, 1, none⟩ (.string t)).alloc (.cells #[.pointer none, .slice none 0 0] TB)) fun x w' => x = .returned (.tuple #[]) ∧ Wr w.heap.size (w1.heap.size) ((w1.setCell ⟨wr.heap.size, 1, none⟩ (.string t)).alloc (.cells #[.pointer none, .slice none 0 0] TB)) [] (lineB 1 t 0 0 false ++ [10]) w' := doc_write (w1.heap.size) 1 [] t 0 0 false w _ (by omega) hbld (by have := htl.out; show 0 + 4 * t.size ≤ _; omega) hbX.out hT (by omega) (by omega)
            clear hbld
            refine cW.mono ?_
            clear cW
            rintro x_ w2 ⟨rfl, hW⟩
            have hb2 := Lib.hid (hbX.out.trans hW.2.1)
            have hq2 := Lib.hid (hqX.out.oth hW.2.2 (by omega) (by decide))
            have hR2 := Lib.hid (hRX.out.oth hW.2.2 (by omega) (by decide))
            have hBl2 : Hid (Lib.IsBuilderF TB TU w.heap.size _ (Lib.byteCells (lineB 1 t 0 0 false ++ [10])) w2) := Lib.hid (.inr (by simpa using hW.1))
            clear hW hqX hRX hq hRq
            have s2 := hb2.out.size
            obtain ⟨Ln, hLn⟩ : ∃ Ln, lineB 1 t 0 0 false = Ln := ⟨_, rfl⟩
            obtain ⟨rb, hrb⟩ : ∃ rb, rightB ⟨1, t, 0, 0, false⟩ = rb := ⟨_, rfl⟩
            unfold readEnd at hE
            rw [hLn] at hBl2
            have hE := hE.out
            rw [if_pos htl.out, hLn, hrb] at hE
            have hE := Option.some.inj hE
            simp only [Prod.mk.injEq] at hE
            obtain ⟨rfl, rfl, rfl, rfl, rfl, rfl⟩ := hE
            have g0 := hq2.out.cell 0; have g1 := hq2.out.cell 1; have g2 := hq2.out.cell 2; have g3 := hq2.out.cell 3; have g4 := hq2.out.cell 4
            simp at g0 g1 g2 g3 g4
            have cR : ∀ W, Calls Tryd.prog 42 #[.agg #[.int .u8 1, .string t, .int .i64 0, .int .i64 0, .bool false]] W fun e w' => e = .returned (.bool rb) ∧ Below W.heap.size W w' := fun W => by have := doc_right ⟨1, t, 0, 0, false⟩ W; rw [hrb] at this; exact this
            replace cR := Lib.hid cR; replace hLn := Lib.hid hLn; replace hrb := Lib.hid hrb
            have hnz : ¬ (9223372036854775807 < a0.size + 1) := by omega
            have hne : w.heap.size ≠ wr.heap.size := by omega
            have hnq : wr.heap.size ≠ w1.heap.size := by omega
            have hnR : w.heap.size ≠ w1.heap.size := by omega
            cases rb with
            | false =>
              go_wp2_with fail
              refine wp_region_late (fun W => W.cell? ⟨wr.heap.size, 0, none⟩ = some (.int .u8 1) ∧ W.cell? ⟨wr.heap.size, 1, none⟩ = some (.string t) ∧ W.cell? ⟨wr.heap.size, 2, none⟩ = some (.int .i64 0) ∧ W.cell? ⟨wr.heap.size, 3, none⟩ = some (.int .i64 0) ∧ W.cell? ⟨wr.heap.size, 4, none⟩ = some (.bool false)) 10 (by kernel_rfl) (by first | exact ⟨g0, g1, g2, g3, g4⟩ | (dsimp only; exact ⟨g0, g1, g2, g3, g4⟩)) (fun hHeld => ?_)
              refine wpLate_take (i := 0) (v := ?_) rfl (by kernel_rfl) (fun _ _ _ h => h) (Or.inl ⟨by rfl, ?_⟩) hHeld ?_
              rotate_left
              · (intro w hSw; (try dsimp only at hSw); go_simp; try with_reducible rfl)
              simp only [Act.put, List.setIfInBounds_toArray, List.set_cons_zero, List.set_cons_succ]
              refine wpLate_take (i := 1) (v := ?_) rfl (by kernel_rfl) (fun _ _ _ h => h) (Or.inl ⟨by rfl, ?_⟩) hHeld ?_
              rotate_left
              · (intro w hSw; (try dsimp only at hSw); go_simp; try with_reducible rfl)
              simp only [Act.put, List.setIfInBounds_toArray, List.set_cons_zero, List.set_cons_succ]
              refine wpLate_step (i := 2) (by kernel_rfl) rfl (fun K hK => ?_)
              go_simp
              (go_at_call 42; refine (cR.out _).mono ?_; rintro x_ w4 ⟨rfl, b4⟩; replace hq2 := Lib.hid (by first | exact hq2.out.below' b4 | exact hq2.out.drew.below' b4); replace hR2 := Lib.hid (by first | exact hR2.out.below' b4 | exact hR2.out.drew.below' b4); replace hBl2 := Lib.hid (isBldBelow (W := w2.drew) hBl2.out b4); replace hb2 := Lib.hid (by first | exact hb2.out.trans (b4.mono hb2.out.size) | exact hb2.out.drew.trans (b4.mono hb2.out.size)); replace g0 := (by have := hq2.out.cell 0; simpa using this); replace g1 := (by have := hq2.out.cell 1; simpa using this); replace g2 := (by have := hq2.out.cell 2; simpa using this); replace g3 := (by have := hq2.out.cell 3; simpa using this); replace g4 := (by have := hq2.out.cell 4; simpa using this); clear b4)
              refine hK.out _ _ ?_ (fun hHeld => ?_)
              · first | exact ⟨g0, g1, g2, g3, g4⟩ | (dsimp only; exact ⟨g0, g1, g2, g3, g4⟩)
              clear hK K
              try simp only [Act.put, List.setIfInBounds_toArray, List.set_cons_zero, List.set_cons_succ]
              refine wpLate_take (i := 3) (v := ?_) rfl (by kernel_rfl) (fun _ _ _ h => h) (Or.inl ⟨by rfl, ?_⟩) hHeld ?_
              rotate_left
              · (intro w hSw; (try dsimp only at hSw); go_simp; try with_reducible rfl)
              simp only [Act.put, List.setIfInBounds_toArray, List.set_cons_zero, List.set_cons_succ]
              refine wpLate_take (i := 4) (v := undef) rfl (by kernel_rfl) (fun _ _ _ h => h) (Or.inr ⟨by rfl, rfl⟩) hHeld ?_
              simp only [Act.put, List.setIfInBounds_toArray, List.set_cons_zero, List.set_cons_succ]
              refine wpLate_take (i := 5) (v := undef) rfl (by kernel_rfl) (fun _ _ _ h => h) (Or.inr ⟨by rfl, rfl⟩) hHeld ?_
              simp only [Act.put, List.setIfInBounds_toArray, List.set_cons_zero, List.set_cons_succ]
              refine wpLate_take (i := 6) (v := undef) rfl (by kernel_rfl) (fun _ _ _ h => h) (Or.inr ⟨by rfl, rfl⟩) hHeld ?_
              simp only [Act.put, List.setIfInBounds_toArray, List.set_cons_zero, List.set_cons_succ]
              refine wpLate_take (i := 7) (v := undef) rfl (by kernel_rfl) (fun _ _ _ h => h) (Or.inr ⟨by rfl, rfl⟩) hHeld ?_
              simp only [Act.put, List.setIfInBounds_toArray, List.set_cons_zero, List.set_cons_succ]
              refine wpLate_take (i := 8) (v := ?_) rfl (by kernel_rfl) (fun _ _ _ h => h) (Or.inl ⟨by rfl, ?_⟩) hHeld ?_
              rotate_left
              · (intro w hSw; (try dsimp only at hSw); go_simp; try with_reducible rfl)
              simp only [Act.put, List.setIfInBounds_toArray, List.set_cons_zero, List.set_cons_succ]
              have q0 := hR2.out.cell 0; simp at q0; have f0 := hR2.out.frozen 0; have q1 := hR2.out.cell 1; simp at q1; have f1 := hR2.out.frozen 1; have q2 := hR2.out.cell 2; simp at q2; have f2 := hR2.out.frozen 2; have q3 := hR2.out.cell 3; simp at q3; have f3 := hR2.out.frozen 3; have q4 := hR2.out.cell 4; simp at q4; have f4 := hR2.out.frozen 4
              have hq3 := (((((hq2.out.other ⟨w.heap.size, 0, none⟩ (.int .u8 1) hne).other ⟨w.heap.size, 1, none⟩ (.string t) hne).other ⟨w.heap.size, 2, none⟩ (.int .i64 0) hne).other ⟨w.heap.size, 3, none⟩ (.int .i64 0) hne).other ⟨w.heap.size, 4, none⟩ (.bool false) hne)
              have hR3 := (((((hR2.out.set 0 (.int .u8 1)).set 1 (.string t)).set 2 (.int .i64 0)).set 3 (.int .i64 0)).set 4 (.bool false))
              have e0 := hq3.cell 0; simp at e0; have e1 := hq3.cell 1; simp at e1; have e2 := hq3.cell 2; simp at e2; have e3 := hq3.cell 3; simp at e3; have e4 := hq3.cell 4; simp at e4
              refine wpLate_step (i := 9) (by kernel_rfl) rfl (fun K hK => ?_)
              go_simp
              refine hK.out _ _ ?_ (fun hHeld => ?_)
              · first | exact ⟨e0, e1, e2, e3, e4⟩ | (dsimp only; exact ⟨e0, e1, e2, e3, e4⟩)
              clear hK K
              try simp only [Act.put, List.setIfInBounds_toArray, List.set_cons_zero, List.set_cons_succ]
              clear q0 q1 q2 q3 q4 f0 f1 f2 f3 f4 e0 e1 e2 e3 e4 hq3 g0 g1 g2 g3 g4
              have z0 := hR3.cell 0; simp at z0; have z1 := hR3.cell 1; simp at z1; have z2 := hR3.cell 2; simp at z2; have z3 := hR3.cell 3; simp at z3; have z4 := hR3.cell 4; simp at z4
              refine wpLate_last (by kernel_rfl) rfl (by kernel_rfl) (fun K hK => ?_)
              go_simp
              refine hK.out _ _ ?_
              clear hK K
              go_wp2_with fail
              (try simp only [Exit.inBlock, Exit.then])
              refine bodyPost_ret (v := .tuple #[.agg #[.int .u8 1, .string t, .int .i64 0, .int .i64 0, .bool false], .bool false]) (by simp [results, Tryd.results49, go_sem, z0, z1, z2, z3, z4]) rfl ?_
              exact ⟨rfl, (by refine below_set ?_ (Nat.le_refl _); refine below_set ?_ (Nat.le_refl _); refine below_set ?_ (Nat.le_refl _); refine below_set ?_ (Nat.le_refl _); refine below_set ?_ (Nat.le_refl _); exact hb2.out)⟩
            | true =>
              go_wp2_with fail
              refine wp_region_late (fun W => W.cell? ⟨wr.heap.size, 0, none⟩ = some (.int .u8 1) ∧ W.cell? ⟨wr.heap.size, 1, none⟩ = some (.string t) ∧ W.cell? ⟨wr.heap.size, 2, none⟩ = some (.int .i64 0) ∧ W.cell? ⟨wr.heap.size, 3, none⟩ = some (.int .i64 0) ∧ W.cell? ⟨wr.heap.size, 4, none⟩ = some (.bool false)) 10 (by kernel_rfl) (by first | exact ⟨g0, g1, g2, g3, g4⟩ | (dsimp only; exact ⟨g0, g1, g2, g3, g4⟩)) (fun hHeld => ?_)
              refine wpLate_take (i := 0) (v := ?_) rfl (by kernel_rfl) (fun _ _ _ h => h) (Or.inl ⟨by rfl, ?_⟩) hHeld ?_
              rotate_left
              · (intro w hSw; (try dsimp only at hSw); go_simp; try with_reducible rfl)
              simp only [Act.put, List.setIfInBounds_toArray, List.set_cons_zero, List.set_cons_succ]
              refine wpLate_take (i := 1) (v := ?_) rfl (by kernel_rfl) (fun _ _ _ h => h) (Or.inl ⟨by rfl, ?_⟩) hHeld ?_
              rotate_left
              · (intro w hSw; (try dsimp only at hSw); go_simp; try with_reducible rfl)
              simp only [Act.put, List.setIfInBounds_toArray, List.set_cons_zero, List.set_cons_succ]
              refine wpLate_step (i := 2) (by kernel_rfl) rfl (fun K hK => ?_)
              go_simp
              (go_at_call 42; refine (cR.out _).mono ?_; rintro x_ w4 ⟨rfl, b4⟩; replace hq2 := Lib.hid (by first | exact hq2.out.below' b4 | exact hq2.out.drew.below' b4); replace hR2 := Lib.hid (by first | exact hR2.out.below' b4 | exact hR2.out.drew.below' b4); replace hBl2 := Lib.hid (isBldBelow (W := w2.drew) hBl2.out b4); replace hb2 := Lib.hid (by first | exact hb2.out.trans (b4.mono hb2.out.size) | exact hb2.out.drew.trans (b4.mono hb2.out.size)); replace g0 := (by have := hq2.out.cell 0; simpa using this); replace g1 := (by have := hq2.out.cell 1; simpa using this); replace g2 := (by have := hq2.out.cell 2; simpa using this); replace g3 := (by have := hq2.out.cell 3; simpa using this); replace g4 := (by have := hq2.out.cell 4; simpa using this); clear b4)
              refine hK.out _ _ ?_ (fun hHeld => ?_)
              · first | exact ⟨g0, g1, g2, g3, g4⟩ | (dsimp only; exact ⟨g0, g1, g2, g3, g4⟩)
              clear hK K
              try simp only [Act.put, List.setIfInBounds_toArray, List.set_cons_zero, List.set_cons_succ]
              refine wpLate_take (i := 3) (v := ?_) rfl (by kernel_rfl) (fun _ _ _ h => h) (Or.inl ⟨by rfl, ?_⟩) hHeld ?_
              rotate_left
              · (intro w hSw; (try dsimp only at hSw); go_simp; try with_reducible rfl)
              simp only [Act.put, List.setIfInBounds_toArray, List.set_cons_zero, List.set_cons_succ]
              refine wpLate_take (i := 5) (v := ?_) rfl (by kernel_rfl) (fun _ _ _ h => h) (Or.inl ⟨by rfl, ?_⟩) hHeld ?_
              rotate_left
              · (intro w hSw; (try dsimp only at hSw); go_simp; try with_reducible rfl)
              simp only [Act.put, List.setIfInBounds_toArray, List.set_cons_zero, List.set_cons_succ]
              refine wpLate_take (i := 6) (v := ?_) rfl (by kernel_rfl) (fun _ _ _ h => h) (Or.inl ⟨by rfl, ?_⟩) hHeld ?_
              rotate_left
              · (intro w hSw; (try dsimp only at hSw); go_simp; try with_reducible rfl)
              simp only [Act.put, List.setIfInBounds_toArray, List.set_cons_zero, List.set_cons_succ]
              refine wpLate_step (i := 4) (by kernel_rfl) rfl (fun K hK => ?_)
              go_simp
              (go_at_call 46; refine (Tryd.Builder_String_any_k _ _ _ _ hBl2.out hb2.out.size).mono ?_; rintro x_ w5 ⟨rfl, hBl3, b5, o5⟩; replace hq2 := Lib.hid (hq2.out.oth o5 hnq (by decide)); replace hR2 := Lib.hid (hR2.out.oth o5 hnR (by decide)); replace hb2 := Lib.hid (hb2.out.trans b5); clear hBl3 b5 o5; replace g0 := (by have := hq2.out.cell 0; simpa using this); replace g1 := (by have := hq2.out.cell 1; simpa using this); replace g2 := (by have := hq2.out.cell 2; simpa using this); replace g3 := (by have := hq2.out.cell 3; simpa using this); replace g4 := (by have := hq2.out.cell 4; simpa using this))
              refine hK.out _ _ ?_ (fun hHeld => ?_)
              · first | exact ⟨g0, g1, g2, g3, g4⟩ | (dsimp only; exact ⟨g0, g1, g2, g3, g4⟩)
              clear hK K
              try simp only [Act.put, List.setIfInBounds_toArray, List.set_cons_zero, List.set_cons_succ]
              refine wpLate_take (i := 7) (v := ?_) rfl (by kernel_rfl) (fun _ _ _ h => h) (Or.inl ⟨by rfl, ?_⟩) hHeld ?_
              rotate_left
              · (intro w hSw; (try dsimp only at hSw); go_simp; try with_reducible rfl)
              simp only [Act.put, List.setIfInBounds_toArray, List.set_cons_zero, List.set_cons_succ]
              refine wpLate_take (i := 8) (v := ?_) rfl (by kernel_rfl) (fun _ _ _ h => h) (Or.inl ⟨by rfl, ?_⟩) hHeld ?_
              rotate_left
              · (intro w hSw; (try dsimp only at hSw); go_simp; try with_reducible rfl)
              simp only [Act.put, List.setIfInBounds_toArray, List.set_cons_zero, List.set_cons_succ]
              have q0 := hR2.out.cell 0; simp at q0; have f0 := hR2.out.frozen 0; have q1 := hR2.out.cell 1; simp at q1; have f1 := hR2.out.frozen 1; have q2 := hR2.out.cell 2; simp at q2; have f2 := hR2.out.frozen 2; have q3 := hR2.out.cell 3; simp at q3; have f3 := hR2.out.frozen 3; have q4 := hR2.out.cell 4; simp at q4; have f4 := hR2.out.frozen 4
              have hq3 := (((((hq2.out.other ⟨w.heap.size, 0, none⟩ (.int .u8 1) hne).other ⟨w.heap.size, 1, none⟩ (.string t) hne).other ⟨w.heap.size, 2, none⟩ (.int .i64 0) hne).other ⟨w.heap.size, 3, none⟩ (.int .i64 0) hne).other ⟨w.heap.size, 4, none⟩ (.bool false) hne)
              have hR3 := (((((hR2.out.set 0 (.int .u8 1)).set 1 (.string t)).set 2 (.int .i64 0)).set 3 (.int .i64 0)).set 4 (.bool false))
              have e0 := hq3.cell 0; simp at e0; have e1 := hq3.cell 1; simp at e1; have e2 := hq3.cell 2; simp at e2; have e3 := hq3.cell 3; simp at e3; have e4 := hq3.cell 4; simp at e4
              refine wpLate_step (i := 9) (by kernel_rfl) rfl (fun K hK => ?_)
              go_simp
              refine hK.out _ _ ?_ (fun hHeld => ?_)
              · first | exact ⟨e0, e1, e2, e3, e4⟩ | (dsimp only; exact ⟨e0, e1, e2, e3, e4⟩)
              clear hK K
              try simp only [Act.put, List.setIfInBounds_toArray, List.set_cons_zero, List.set_cons_succ]
              clear q0 q1 q2 q3 q4 f0 f1 f2 f3 f4 e0 e1 e2 e3 e4 hq3 g0 g1 g2 g3 g4
              have z0 := hR3.cell 0; simp at z0; have z1 := hR3.cell 1; simp at z1; have z2 := hR3.cell 2; simp at z2; have z3 := hR3.cell 3; simp at z3; have z4 := hR3.cell 4; simp at z4
              refine wpLate_last (by kernel_rfl) rfl (by kernel_rfl) (fun K hK => ?_)
              go_simp
              refine hK.out _ _ ?_
              clear hK K
              go_wp2_with fail
              (try simp only [Exit.inBlock, Exit.then])
              refine bodyPost_ret (v := .tuple #[.agg #[.int .u8 1, .string t, .int .i64 0, .int .i64 0, .bool false], .bool (Ln ++ [10] == (a0 ++ (⟨#[10]⟩ : ByteArray)).toList)]) (by simp [results, Tryd.results49, go_sem, z0, z1, z2, z3, z4]) rfl ?_
              exact ⟨by rw [end_eq]; rfl, (by refine below_set ?_ (Nat.le_refl _); refine below_set ?_ (Nat.le_refl _); refine below_set ?_ (Nat.le_refl _); refine below_set ?_ (Nat.le_refl _); refine below_set ?_ (Nat.le_refl _); exact hb2.out)⟩

          · replace hp : Lib.hasPrefix a0.data.toList (⟨#[116, 101, 120, 116, 32]⟩ : ByteArray).data.toList = false := by simpa using hp
            rw [hp] at cP
            replace cP := Lib.hid cP
            go_wp2_with (go_at_call 76; refine cP.out.mono ?_; rintro e w' ⟨rfl, rfl⟩)
            go_roundw
            case rel => exact ⟨2, by go_num, by omega, Lib.hid (fun i h1 h2 => by rcases (by omega : i < 1 ∨ i = 1) with h3 | rfl; exact hno.out i h1 h3; exact hp), hbb, hR⟩
            case measure => simp [RowKit.intOf]
        · have hx : ∀ W, (Instr.index 112 (.agg A) (.int .i64 2)).run Tryd.prog W = .ok (.string (⟨#[98, 108, 97, 110, 107]⟩ : ByteArray)) W := fun W => hI.out 2 (by omega) W
          have cP := Tryd.strings_HasPrefix a0 (⟨#[98, 108, 97, 110, 107]⟩ : ByteArray) wr
          by_cases hp : Lib.hasPrefix a0.data.toList (⟨#[98, 108, 97, 110, 107]⟩ : ByteArray).data.toList = true
          · rw [hp] at cP
            have hpl : (5 : Int) ≤ (a0.size : Int) := by
              have h7 := hasPrefix_len hp; have h8 := size_len a0; have h9 : (⟨#[98, 108, 97, 110, 107]⟩ : ByteArray).data.toList.length = 5 := by decide
              omega
            have hrk : readK a0.data.toList = 2 := by
              unfold readK
              rw [if_neg (by rw [hno.out 1 (by omega) (by omega)]; simp)]
              rw [if_pos (show Lib.hasPrefix a0.data.toList (wordB 2) = true from hp)]
            have hE := h.out
            rw [hrk] at hE
            clear hno hI
            replace cP := Lib.hid cP; replace hp := Lib.hid hp; replace hrk := Lib.hid hrk; replace hE := Lib.hid hE; replace hpl := hpl
            have hzz := hbb.size
            have hlt9 := hR.out.lt
            have hq := Lib.hid (Blk.new wr #[.int .u8 2, .string ⟨#[]⟩, .int .i64 0, .int .i64 0, .bool false] TD)
            have hbq := Lib.hid (hbb.alloc hzz (.cells #[.int .u8 2, .string ⟨#[]⟩, .int .i64 0, .int .i64 0, .bool false] TD))
            have hRq := Lib.hid (hR.out.alloc (.cells #[.int .u8 2, .string ⟨#[]⟩, .int .i64 0, .int .i64 0, .bool false] TD))
            go_wp2_with (go_at_call 76; refine cP.out.mono ?_; rintro x_ w' ⟨rfl, h_⟩; obtain rfl : wr = w' := h_.symm)
            have hzX := hbq.out.size
            have hzs : (wr.alloc (.cells #[.int .u8 2, .string ⟨#[]⟩, .int .i64 0, .int .i64 0, .bool false] TD)).heap.size = wr.heap.size + 1 := by simp
            have hbld : Lib.IsBuilderF TB TU w.heap.size (wr.heap.size + 1) [] ((wr.alloc (.cells #[.int .u8 2, .string ⟨#[]⟩, .int .i64 0, .int .i64 0, .bool false] TD)).alloc (.cells #[.pointer none, .slice none 0 0] TB)) := by have := bldNew w.heap.size (wr.alloc (.cells #[.int .u8 2, .string ⟨#[]⟩, .int .i64 0, .int .i64 0, .bool false] TD)) hzX; rw [hzs] at this; exact this
            have hbX := Lib.hid (hbq.out.alloc hzX (.cells #[.pointer none, .slice none 0 0] TB))
            have hqX := Lib.hid (hq.out.alloc (.cells #[.pointer none, .slice none 0 0] TB))
            have hRX := Lib.hid (hRq.out.alloc (.cells #[.pointer none, .slice none 0 0] TB))
            have hqlt := hq.out.lt
            have hRlt := hRq.out.lt
            have cW : Calls Tryd.prog 45 #[.pointer (some ⟨wr.heap.size + 1, 0, none⟩), .agg #[.int .u8 2, .string ⟨#[]⟩, .int .i64 0, .int .i64 0, .bool false]] ((wr.alloc (.cells #[.int .u8 2, .string ⟨#[]⟩, .int .i64 0, .int .i64 0, .bool false] TD)).alloc (.cells #[.pointer none, .slice none 0 0] TB)) fun x w' => x = .returned (.tuple #[]) ∧ Wr w.heap.size (wr.heap.size + 1) ((wr.alloc (.cells #[.int .u8 2, .string ⟨#[]⟩, .int .i64 0, .int .i64 0, .bool false] TD)).alloc (.cells #[.pointer none, .slice none 0 0] TB)) [] (lineB 2 ⟨#[]⟩ 0 0 false ++ [10]) w' := doc_write (wr.heap.size + 1) 2 [] ⟨#[]⟩ 0 0 false w _ (by omega) hbld (by decide) hbX.out hT (by omega) (by omega)
            clear hbld
            refine cW.mono ?_
            clear cW
            rintro x_ w2 ⟨rfl, hW⟩
            have hb2 := Lib.hid (hbX.out.trans hW.2.1)
            have hq2 := Lib.hid (hqX.out.oth hW.2.2 (by omega) (by decide))
            have hR2 := Lib.hid (hRX.out.oth hW.2.2 (by omega) (by decide))
            have hBl2 : Hid (Lib.IsBuilderF TB TU w.heap.size _ (Lib.byteCells (lineB 2 ⟨#[]⟩ 0 0 false ++ [10])) w2) := Lib.hid (.inr (by simpa using hW.1))
            clear hW hqX hRX hq hRq
            have s2 := hb2.out.size
            obtain ⟨Ln, hLn⟩ : ∃ Ln, lineB 2 ⟨#[]⟩ 0 0 false = Ln := ⟨_, rfl⟩
            obtain ⟨rb, hrb⟩ : ∃ rb, rightB ⟨2, ⟨#[]⟩, 0, 0, false⟩ = rb := ⟨_, rfl⟩
            unfold readEnd at hE
            rw [hLn] at hBl2
            have hE := hE.out
            rw [if_pos (by decide), hLn, hrb] at hE
            have hE := Option.some.inj hE
            simp only [Prod.mk.injEq] at hE
            obtain ⟨rfl, rfl, rfl, rfl, rfl, rfl⟩ := hE
            have g0 := hq2.out.cell 0; have g1 := hq2.out.cell 1; have g2 := hq2.out.cell 2; have g3 := hq2.out.cell 3; have g4 := hq2.out.cell 4
            simp at g0 g1 g2 g3 g4
            have cR : ∀ W, Calls Tryd.prog 42 #[.agg #[.int .u8 2, .string ⟨#[]⟩, .int .i64 0, .int .i64 0, .bool false]] W fun e w' => e = .returned (.bool rb) ∧ Below W.heap.size W w' := fun W => by have := doc_right ⟨2, ⟨#[]⟩, 0, 0, false⟩ W; rw [hrb] at this; exact this
            replace cR := Lib.hid cR; replace hLn := Lib.hid hLn; replace hrb := Lib.hid hrb
            have hnz : ¬ (9223372036854775807 < a0.size + 1) := by omega
            have hne : w.heap.size ≠ wr.heap.size := by omega
            have hnq : wr.heap.size ≠ wr.heap.size + 1 := by omega
            have hnR : w.heap.size ≠ wr.heap.size + 1 := by omega
            cases rb with
            | false =>
              go_wp2_with fail
              refine wp_region_late (fun W => W.cell? ⟨wr.heap.size, 0, none⟩ = some (.int .u8 2) ∧ W.cell? ⟨wr.heap.size, 1, none⟩ = some (.string ⟨#[]⟩) ∧ W.cell? ⟨wr.heap.size, 2, none⟩ = some (.int .i64 0) ∧ W.cell? ⟨wr.heap.size, 3, none⟩ = some (.int .i64 0) ∧ W.cell? ⟨wr.heap.size, 4, none⟩ = some (.bool false)) 10 (by kernel_rfl) (by first | exact ⟨g0, g1, g2, g3, g4⟩ | (dsimp only; exact ⟨g0, g1, g2, g3, g4⟩)) (fun hHeld => ?_)
              refine wpLate_take (i := 0) (v := ?_) rfl (by kernel_rfl) (fun _ _ _ h => h) (Or.inl ⟨by rfl, ?_⟩) hHeld ?_
              rotate_left
              · (intro w hSw; (try dsimp only at hSw); go_simp; try with_reducible rfl)
              simp only [Act.put, List.setIfInBounds_toArray, List.set_cons_zero, List.set_cons_succ]
              refine wpLate_take (i := 1) (v := ?_) rfl (by kernel_rfl) (fun _ _ _ h => h) (Or.inl ⟨by rfl, ?_⟩) hHeld ?_
              rotate_left
              · (intro w hSw; (try dsimp only at hSw); go_simp; try with_reducible rfl)
              simp only [Act.put, List.setIfInBounds_toArray, List.set_cons_zero, List.set_cons_succ]
              refine wpLate_step (i := 2) (by kernel_rfl) rfl (fun K hK => ?_)
              go_simp
              (go_at_call 42; refine (cR.out _).mono ?_; rintro x_ w4 ⟨rfl, b4⟩; replace hq2 := Lib.hid (by first | exact hq2.out.below' b4 | exact hq2.out.drew.below' b4); replace hR2 := Lib.hid (by first | exact hR2.out.below' b4 | exact hR2.out.drew.below' b4); replace hBl2 := Lib.hid (isBldBelow (W := w2.drew) hBl2.out b4); replace hb2 := Lib.hid (by first | exact hb2.out.trans (b4.mono hb2.out.size) | exact hb2.out.drew.trans (b4.mono hb2.out.size)); replace g0 := (by have := hq2.out.cell 0; simpa using this); replace g1 := (by have := hq2.out.cell 1; simpa using this); replace g2 := (by have := hq2.out.cell 2; simpa using this); replace g3 := (by have := hq2.out.cell 3; simpa using this); replace g4 := (by have := hq2.out.cell 4; simpa using this); clear b4)
              refine hK.out _ _ ?_ (fun hHeld => ?_)
              · first | exact ⟨g0, g1, g2, g3, g4⟩ | (dsimp only; exact ⟨g0, g1, g2, g3, g4⟩)
              clear hK K
              try simp only [Act.put, List.setIfInBounds_toArray, List.set_cons_zero, List.set_cons_succ]
              refine wpLate_take (i := 3) (v := ?_) rfl (by kernel_rfl) (fun _ _ _ h => h) (Or.inl ⟨by rfl, ?_⟩) hHeld ?_
              rotate_left
              · (intro w hSw; (try dsimp only at hSw); go_simp; try with_reducible rfl)
              simp only [Act.put, List.setIfInBounds_toArray, List.set_cons_zero, List.set_cons_succ]
              refine wpLate_take (i := 4) (v := undef) rfl (by kernel_rfl) (fun _ _ _ h => h) (Or.inr ⟨by rfl, rfl⟩) hHeld ?_
              simp only [Act.put, List.setIfInBounds_toArray, List.set_cons_zero, List.set_cons_succ]
              refine wpLate_take (i := 5) (v := undef) rfl (by kernel_rfl) (fun _ _ _ h => h) (Or.inr ⟨by rfl, rfl⟩) hHeld ?_
              simp only [Act.put, List.setIfInBounds_toArray, List.set_cons_zero, List.set_cons_succ]
              refine wpLate_take (i := 6) (v := undef) rfl (by kernel_rfl) (fun _ _ _ h => h) (Or.inr ⟨by rfl, rfl⟩) hHeld ?_
              simp only [Act.put, List.setIfInBounds_toArray, List.set_cons_zero, List.set_cons_succ]
              refine wpLate_take (i := 7) (v := undef) rfl (by kernel_rfl) (fun _ _ _ h => h) (Or.inr ⟨by rfl, rfl⟩) hHeld ?_
              simp only [Act.put, List.setIfInBounds_toArray, List.set_cons_zero, List.set_cons_succ]
              refine wpLate_take (i := 8) (v := ?_) rfl (by kernel_rfl) (fun _ _ _ h => h) (Or.inl ⟨by rfl, ?_⟩) hHeld ?_
              rotate_left
              · (intro w hSw; (try dsimp only at hSw); go_simp; try with_reducible rfl)
              simp only [Act.put, List.setIfInBounds_toArray, List.set_cons_zero, List.set_cons_succ]
              have q0 := hR2.out.cell 0; simp at q0; have f0 := hR2.out.frozen 0; have q1 := hR2.out.cell 1; simp at q1; have f1 := hR2.out.frozen 1; have q2 := hR2.out.cell 2; simp at q2; have f2 := hR2.out.frozen 2; have q3 := hR2.out.cell 3; simp at q3; have f3 := hR2.out.frozen 3; have q4 := hR2.out.cell 4; simp at q4; have f4 := hR2.out.frozen 4
              have hq3 := (((((hq2.out.other ⟨w.heap.size, 0, none⟩ (.int .u8 2) hne).other ⟨w.heap.size, 1, none⟩ (.string ⟨#[]⟩) hne).other ⟨w.heap.size, 2, none⟩ (.int .i64 0) hne).other ⟨w.heap.size, 3, none⟩ (.int .i64 0) hne).other ⟨w.heap.size, 4, none⟩ (.bool false) hne)
              have hR3 := (((((hR2.out.set 0 (.int .u8 2)).set 1 (.string ⟨#[]⟩)).set 2 (.int .i64 0)).set 3 (.int .i64 0)).set 4 (.bool false))
              have e0 := hq3.cell 0; simp at e0; have e1 := hq3.cell 1; simp at e1; have e2 := hq3.cell 2; simp at e2; have e3 := hq3.cell 3; simp at e3; have e4 := hq3.cell 4; simp at e4
              refine wpLate_step (i := 9) (by kernel_rfl) rfl (fun K hK => ?_)
              go_simp
              refine hK.out _ _ ?_ (fun hHeld => ?_)
              · first | exact ⟨e0, e1, e2, e3, e4⟩ | (dsimp only; exact ⟨e0, e1, e2, e3, e4⟩)
              clear hK K
              try simp only [Act.put, List.setIfInBounds_toArray, List.set_cons_zero, List.set_cons_succ]
              clear q0 q1 q2 q3 q4 f0 f1 f2 f3 f4 e0 e1 e2 e3 e4 hq3 g0 g1 g2 g3 g4
              have z0 := hR3.cell 0; simp at z0; have z1 := hR3.cell 1; simp at z1; have z2 := hR3.cell 2; simp at z2; have z3 := hR3.cell 3; simp at z3; have z4 := hR3.cell 4; simp at z4
              refine wpLate_last (by kernel_rfl) rfl (by kernel_rfl) (fun K hK => ?_)
              go_simp
              refine hK.out _ _ ?_
              clear hK K
              go_wp2_with fail
              (try simp only [Exit.inBlock, Exit.then])
              refine bodyPost_ret (v := .tuple #[.agg #[.int .u8 2, .string ⟨#[]⟩, .int .i64 0, .int .i64 0, .bool false], .bool false]) (by simp [results, Tryd.results49, go_sem, z0, z1, z2, z3, z4]) rfl ?_
              exact ⟨rfl, (by refine below_set ?_ (Nat.le_refl _); refine below_set ?_ (Nat.le_refl _); refine below_set ?_ (Nat.le_refl _); refine below_set ?_ (Nat.le_refl _); refine below_set ?_ (Nat.le_refl _); exact hb2.out)⟩
            | true =>
              go_wp2_with fail
              refine wp_region_late (fun W => W.cell? ⟨wr.heap.size, 0, none⟩ = some (.int .u8 2) ∧ W.cell? ⟨wr.heap.size, 1, none⟩ = some (.string ⟨#[]⟩) ∧ W.cell? ⟨wr.heap.size, 2, none⟩ = some (.int .i64 0) ∧ W.cell? ⟨wr.heap.size, 3, none⟩ = some (.int .i64 0) ∧ W.cell? ⟨wr.heap.size, 4, none⟩ = some (.bool false)) 10 (by kernel_rfl) (by first | exact ⟨g0, g1, g2, g3, g4⟩ | (dsimp only; exact ⟨g0, g1, g2, g3, g4⟩)) (fun hHeld => ?_)
              refine wpLate_take (i := 0) (v := ?_) rfl (by kernel_rfl) (fun _ _ _ h => h) (Or.inl ⟨by rfl, ?_⟩) hHeld ?_
              rotate_left
              · (intro w hSw; (try dsimp only at hSw); go_simp; try with_reducible rfl)
              simp only [Act.put, List.setIfInBounds_toArray, List.set_cons_zero, List.set_cons_succ]
              refine wpLate_take (i := 1) (v := ?_) rfl (by kernel_rfl) (fun _ _ _ h => h) (Or.inl ⟨by rfl, ?_⟩) hHeld ?_
              rotate_left
              · (intro w hSw; (try dsimp only at hSw); go_simp; try with_reducible rfl)
              simp only [Act.put, List.setIfInBounds_toArray, List.set_cons_zero, List.set_cons_succ]
              refine wpLate_step (i := 2) (by kernel_rfl) rfl (fun K hK => ?_)
              go_simp
              (go_at_call 42; refine (cR.out _).mono ?_; rintro x_ w4 ⟨rfl, b4⟩; replace hq2 := Lib.hid (by first | exact hq2.out.below' b4 | exact hq2.out.drew.below' b4); replace hR2 := Lib.hid (by first | exact hR2.out.below' b4 | exact hR2.out.drew.below' b4); replace hBl2 := Lib.hid (isBldBelow (W := w2.drew) hBl2.out b4); replace hb2 := Lib.hid (by first | exact hb2.out.trans (b4.mono hb2.out.size) | exact hb2.out.drew.trans (b4.mono hb2.out.size)); replace g0 := (by have := hq2.out.cell 0; simpa using this); replace g1 := (by have := hq2.out.cell 1; simpa using this); replace g2 := (by have := hq2.out.cell 2; simpa using this); replace g3 := (by have := hq2.out.cell 3; simpa using this); replace g4 := (by have := hq2.out.cell 4; simpa using this); clear b4)
              refine hK.out _ _ ?_ (fun hHeld => ?_)
              · first | exact ⟨g0, g1, g2, g3, g4⟩ | (dsimp only; exact ⟨g0, g1, g2, g3, g4⟩)
              clear hK K
              try simp only [Act.put, List.setIfInBounds_toArray, List.set_cons_zero, List.set_cons_succ]
              refine wpLate_take (i := 3) (v := ?_) rfl (by kernel_rfl) (fun _ _ _ h => h) (Or.inl ⟨by rfl, ?_⟩) hHeld ?_
              rotate_left
              · (intro w hSw; (try dsimp only at hSw); go_simp; try with_reducible rfl)
              simp only [Act.put, List.setIfInBounds_toArray, List.set_cons_zero, List.set_cons_succ]
              refine wpLate_take (i := 5) (v := ?_) rfl (by kernel_rfl) (fun _ _ _ h => h) (Or.inl ⟨by rfl, ?_⟩) hHeld ?_
              rotate_left
              · (intro w hSw; (try dsimp only at hSw); go_simp; try with_reducible rfl)
              simp only [Act.put, List.setIfInBounds_toArray, List.set_cons_zero, List.set_cons_succ]
              refine wpLate_take (i := 6) (v := ?_) rfl (by kernel_rfl) (fun _ _ _ h => h) (Or.inl ⟨by rfl, ?_⟩) hHeld ?_
              rotate_left
              · (intro w hSw; (try dsimp only at hSw); go_simp; try with_reducible rfl)
              simp only [Act.put, List.setIfInBounds_toArray, List.set_cons_zero, List.set_cons_succ]
              refine wpLate_step (i := 4) (by kernel_rfl) rfl (fun K hK => ?_)
              go_simp
              (go_at_call 46; refine (Tryd.Builder_String_any_k _ _ _ _ hBl2.out hb2.out.size).mono ?_; rintro x_ w5 ⟨rfl, hBl3, b5, o5⟩; replace hq2 := Lib.hid (hq2.out.oth o5 hnq (by decide)); replace hR2 := Lib.hid (hR2.out.oth o5 hnR (by decide)); replace hb2 := Lib.hid (hb2.out.trans b5); clear hBl3 b5 o5; replace g0 := (by have := hq2.out.cell 0; simpa using this); replace g1 := (by have := hq2.out.cell 1; simpa using this); replace g2 := (by have := hq2.out.cell 2; simpa using this); replace g3 := (by have := hq2.out.cell 3; simpa using this); replace g4 := (by have := hq2.out.cell 4; simpa using this))
              refine hK.out _ _ ?_ (fun hHeld => ?_)
              · first | exact ⟨g0, g1, g2, g3, g4⟩ | (dsimp only; exact ⟨g0, g1, g2, g3, g4⟩)
              clear hK K
              try simp only [Act.put, List.setIfInBounds_toArray, List.set_cons_zero, List.set_cons_succ]
              refine wpLate_take (i := 7) (v := ?_) rfl (by kernel_rfl) (fun _ _ _ h => h) (Or.inl ⟨by rfl, ?_⟩) hHeld ?_
              rotate_left
              · (intro w hSw; (try dsimp only at hSw); go_simp; try with_reducible rfl)
              simp only [Act.put, List.setIfInBounds_toArray, List.set_cons_zero, List.set_cons_succ]
              refine wpLate_take (i := 8) (v := ?_) rfl (by kernel_rfl) (fun _ _ _ h => h) (Or.inl ⟨by rfl, ?_⟩) hHeld ?_
              rotate_left
              · (intro w hSw; (try dsimp only at hSw); go_simp; try with_reducible rfl)
              simp only [Act.put, List.setIfInBounds_toArray, List.set_cons_zero, List.set_cons_succ]
              have q0 := hR2.out.cell 0; simp at q0; have f0 := hR2.out.frozen 0; have q1 := hR2.out.cell 1; simp at q1; have f1 := hR2.out.frozen 1; have q2 := hR2.out.cell 2; simp at q2; have f2 := hR2.out.frozen 2; have q3 := hR2.out.cell 3; simp at q3; have f3 := hR2.out.frozen 3; have q4 := hR2.out.cell 4; simp at q4; have f4 := hR2.out.frozen 4
              have hq3 := (((((hq2.out.other ⟨w.heap.size, 0, none⟩ (.int .u8 2) hne).other ⟨w.heap.size, 1, none⟩ (.string ⟨#[]⟩) hne).other ⟨w.heap.size, 2, none⟩ (.int .i64 0) hne).other ⟨w.heap.size, 3, none⟩ (.int .i64 0) hne).other ⟨w.heap.size, 4, none⟩ (.bool false) hne)
              have hR3 := (((((hR2.out.set 0 (.int .u8 2)).set 1 (.string ⟨#[]⟩)).set 2 (.int .i64 0)).set 3 (.int .i64 0)).set 4 (.bool false))
              have e0 := hq3.cell 0; simp at e0; have e1 := hq3.cell 1; simp at e1; have e2 := hq3.cell 2; simp at e2; have e3 := hq3.cell 3; simp at e3; have e4 := hq3.cell 4; simp at e4
              refine wpLate_step (i := 9) (by kernel_rfl) rfl (fun K hK => ?_)
              go_simp
              refine hK.out _ _ ?_ (fun hHeld => ?_)
              · first | exact ⟨e0, e1, e2, e3, e4⟩ | (dsimp only; exact ⟨e0, e1, e2, e3, e4⟩)
              clear hK K
              try simp only [Act.put, List.setIfInBounds_toArray, List.set_cons_zero, List.set_cons_succ]
              clear q0 q1 q2 q3 q4 f0 f1 f2 f3 f4 e0 e1 e2 e3 e4 hq3 g0 g1 g2 g3 g4
              have z0 := hR3.cell 0; simp at z0; have z1 := hR3.cell 1; simp at z1; have z2 := hR3.cell 2; simp at z2; have z3 := hR3.cell 3; simp at z3; have z4 := hR3.cell 4; simp at z4
              refine wpLate_last (by kernel_rfl) rfl (by kernel_rfl) (fun K hK => ?_)
              go_simp
              refine hK.out _ _ ?_
              clear hK K
              go_wp2_with fail
              (try simp only [Exit.inBlock, Exit.then])
              refine bodyPost_ret (v := .tuple #[.agg #[.int .u8 2, .string ⟨#[]⟩, .int .i64 0, .int .i64 0, .bool false], .bool (Ln ++ [10] == (a0 ++ (⟨#[10]⟩ : ByteArray)).toList)]) (by simp [results, Tryd.results49, go_sem, z0, z1, z2, z3, z4]) rfl ?_
              exact ⟨by rw [end_eq]; rfl, (by refine below_set ?_ (Nat.le_refl _); refine below_set ?_ (Nat.le_refl _); refine below_set ?_ (Nat.le_refl _); refine below_set ?_ (Nat.le_refl _); refine below_set ?_ (Nat.le_refl _); exact hb2.out)⟩

          · replace hp : Lib.hasPrefix a0.data.toList (⟨#[98, 108, 97, 110, 107]⟩ : ByteArray).data.toList = false := by simpa using hp
            rw [hp] at cP
            replace cP := Lib.hid cP
            go_wp2_with (go_at_call 76; refine cP.out.mono ?_; rintro e w' ⟨rfl, rfl⟩)
            go_roundw
            case rel => exact ⟨3, by go_num, by omega, Lib.hid (fun i h1 h2 => by rcases (by omega : i < 2 ∨ i = 2) with h3 | rfl; exact hno.out i h1 h3; exact hp), hbb, hR⟩
            case measure => simp [RowKit.intOf]
        · have hx : ∀ W, (Instr.index 112 (.agg A) (.int .i64 3)).run Tryd.prog W = .ok (.string (⟨#[98, 114, 101, 97, 107, 32]⟩ : ByteArray)) W := fun W => hI.out 3 (by omega) W
          have cP := Tryd.strings_HasPrefix a0 (⟨#[98, 114, 101, 97, 107, 32]⟩ : ByteArray) wr
          by_cases hp : Lib.hasPrefix a0.data.toList (⟨#[98, 114, 101, 97, 107, 32]⟩ : ByteArray).data.toList = true
          · rw [hp] at cP
            have hpl : (6 : Int) ≤ (a0.size : Int) := by
              have h7 := hasPrefix_len hp; have h8 := size_len a0; have h9 : (⟨#[98, 114, 101, 97, 107, 32]⟩ : ByteArray).data.toList.length = 6 := by decide
              omega
            have hrk : readK a0.data.toList = 3 := by
              unfold readK
              rw [if_neg (by rw [hno.out 1 (by omega) (by omega)]; simp)]
              rw [if_neg (by rw [hno.out 2 (by omega) (by omega)]; simp)]
              rw [if_pos (show Lib.hasPrefix a0.data.toList (wordB 3) = true from hp)]
            have hE := h.out
            rw [hrk] at hE
            clear hno hI
            replace cP := Lib.hid cP; replace hp := Lib.hid hp; replace hrk := Lib.hid hrk; replace hE := Lib.hid hE; replace hpl := hpl
            have hzz := hbb.size
            have hlt9 := hR.out.lt
            have hq := Lib.hid (Blk.new wr #[.int .u8 3, .string ⟨#[]⟩, .int .i64 0, .int .i64 0, .bool false] TD)
            have hbq := Lib.hid (hbb.alloc hzz (.cells #[.int .u8 3, .string ⟨#[]⟩, .int .i64 0, .int .i64 0, .bool false] TD))
            have hRq := Lib.hid (hR.out.alloc (.cells #[.int .u8 3, .string ⟨#[]⟩, .int .i64 0, .int .i64 0, .bool false] TD))
            go_wp2_with (go_at_call 76; refine cP.out.mono ?_; rintro x_ w' ⟨rfl, h_⟩; obtain rfl : wr = w' := h_.symm)
            refine (atoi_c _ _ (by have := cut_le a0 6 a0.size; simp only [cutS] at this; omega) (hT.below hbq.out)).mono ?_
            rintro x_ w1 ⟨⟨ev, rfl⟩, b1⟩
            obtain ⟨n, hn⟩ : ∃ n, atoiV (cutS a0 6 a0.size).data.toList = n := ⟨_, rfl⟩
            have hnb := atoiV_bd (cutS a0 6 a0.size).data.toList
            have hn' : atoiV (a0.extract 6 a0.size).data.toList = n := hn
            have hE := hE.out
            (try simp only at hE)
            rw [hn] at hE hnb
            rw [hn']
            replace hE := Lib.hid hE; replace hn := Lib.hid hn; replace hn' := Lib.hid hn'
            have t1 := (hq.out.below' b1).frozen 2
            have s0 := (hq.out.below' b1).cell 0; simp at s0
            have s1 := (hq.out.below' b1).cell 1; simp at s1
            have s2 := (hq.out.below' b1).cell 2; simp at s2
            have s3 := (hq.out.below' b1).cell 3; simp at s3
            have s4 := (hq.out.below' b1).cell 4; simp at s4
            have hv : wr.heap.size < w1.heap.size := (hq.out.below' b1).lt
            replace hRq : Hid (Blk (w1.setCell ⟨wr.heap.size, 2, none⟩ (.int .i64 n)) w.heap.size #[.int .u8 0, .string ⟨#[]⟩, .int .i64 0, .int .i64 0, .bool false] TD) := Lib.hid ((hRq.out.below' b1).other _ _ (fun e => by have e : wr.heap.size = w.heap.size := e; omega))
            replace hq : Hid (Blk (w1.setCell ⟨wr.heap.size, 2, none⟩ (.int .i64 n)) wr.heap.size #[.int .u8 3, .string ⟨#[]⟩, .int .i64 n, .int .i64 0, .bool false] TD) := Lib.hid ((hq.out.below' b1).set 2 (.int .i64 n))
            replace hbq : Hid (Below w.heap.size w (w1.setCell ⟨wr.heap.size, 2, none⟩ (.int .i64 n))) := Lib.hid (below_set (hbq.out.trans (b1.mono hbq.out.size)) hzz)
            clear b1
            go_wp2_with fail
            have hzX := hbq.out.size
            have hzs : (w1.setCell ⟨wr.heap.size, 2, none⟩ (.int .i64 n)).heap.size = w1.heap.size := by simp
            have hbld : Lib.IsBuilderF TB TU w.heap.size (w1.heap.size) [] ((w1.setCell ⟨wr.heap.size, 2, none⟩ (.int .i64 n)).alloc (.cells #[.pointer none, .slice none 0 0] TB)) := by have := bldNew w.heap.size (w1.setCell ⟨wr.heap.size, 2, none⟩ (.int .i64 n)) hzX; rw [hzs] at this; exact this
            have hbX := Lib.hid (hbq.out.alloc hzX (.cells #[.pointer none, .slice none 0 0] TB))
            have hqX := Lib.hid (hq.out.alloc (.cells #[.pointer none, .slice none 0 0] TB))
            have hRX := Lib.hid (hRq.out.alloc (.cells #[.pointer none, .slice none 0 0] TB))
            have hqlt := hq.out.lt
            have hRlt := hRq.out.lt
            have cW : Calls Tryd.prog 45 #[.pointer (some ⟨w1.heap.size, 0, none⟩), .agg #[.int .u8 3, .string ⟨#[]⟩, .int .i64 n, .int .i64 0, .bool false]] ((w1.setCell ⟨wr.heap.size, 2, none⟩ (.int .i64 n)).alloc (.cells #[.pointer none, .slice none 0 0] TB)) fun x w' => x = .returned (.tuple #[]) ∧ Wr w.heap.size (w1.heap.size) ((w1.setCell ⟨wr.heap.size, 2, none⟩ (.int .i64 n)).alloc (.cells #[.pointer none, .slice none 0 0] TB)) [] (lineB 3 ⟨#[]⟩ n 0 false ++ [10]) w' := doc_write (w1.heap.size) 3 [] ⟨#[]⟩ n 0 false w _ (by omega) hbld (by decide) hbX.out hT (by omega) (by omega)
            clear hbld
            refine cW.mono ?_
            clear cW
            rintro x_ w2 ⟨rfl, hW⟩
            have hb2 := Lib.hid (hbX.out.trans hW.2.1)
            have hq2 := Lib.hid (hqX.out.oth hW.2.2 (by omega) (by decide))
            have hR2 := Lib.hid (hRX.out.oth hW.2.2 (by omega) (by decide))
            have hBl2 : Hid (Lib.IsBuilderF TB TU w.heap.size _ (Lib.byteCells (lineB 3 ⟨#[]⟩ n 0 false ++ [10])) w2) := Lib.hid (.inr (by simpa using hW.1))
            clear hW hqX hRX hq hRq
            have s2 := hb2.out.size
            obtain ⟨Ln, hLn⟩ : ∃ Ln, lineB 3 ⟨#[]⟩ n 0 false = Ln := ⟨_, rfl⟩
            obtain ⟨rb, hrb⟩ : ∃ rb, rightB ⟨3, ⟨#[]⟩, n, 0, false⟩ = rb := ⟨_, rfl⟩
            unfold readEnd at hE
            rw [hLn] at hBl2
            have hE := hE.out
            rw [if_pos (by decide), hLn, hrb] at hE
            have hE := Option.some.inj hE
            simp only [Prod.mk.injEq] at hE
            obtain ⟨rfl, rfl, rfl, rfl, rfl, rfl⟩ := hE
            have g0 := hq2.out.cell 0; have g1 := hq2.out.cell 1; have g2 := hq2.out.cell 2; have g3 := hq2.out.cell 3; have g4 := hq2.out.cell 4
            simp at g0 g1 g2 g3 g4
            have cR : ∀ W, Calls Tryd.prog 42 #[.agg #[.int .u8 3, .string ⟨#[]⟩, .int .i64 n, .int .i64 0, .bool false]] W fun e w' => e = .returned (.bool rb) ∧ Below W.heap.size W w' := fun W => by have := doc_right ⟨3, ⟨#[]⟩, n, 0, false⟩ W; rw [hrb] at this; exact this
            replace cR := Lib.hid cR; replace hLn := Lib.hid hLn; replace hrb := Lib.hid hrb
            have hnz : ¬ (9223372036854775807 < a0.size + 1) := by omega
            have hne : w.heap.size ≠ wr.heap.size := by omega
            have hnq : wr.heap.size ≠ w1.heap.size := by omega
            have hnR : w.heap.size ≠ w1.heap.size := by omega
            cases rb with
            | false =>
              go_wp2_with fail
              refine wp_region_late (fun W => W.cell? ⟨wr.heap.size, 0, none⟩ = some (.int .u8 3) ∧ W.cell? ⟨wr.heap.size, 1, none⟩ = some (.string ⟨#[]⟩) ∧ W.cell? ⟨wr.heap.size, 2, none⟩ = some (.int .i64 n) ∧ W.cell? ⟨wr.heap.size, 3, none⟩ = some (.int .i64 0) ∧ W.cell? ⟨wr.heap.size, 4, none⟩ = some (.bool false)) 10 (by kernel_rfl) (by first | exact ⟨g0, g1, g2, g3, g4⟩ | (dsimp only; exact ⟨g0, g1, g2, g3, g4⟩)) (fun hHeld => ?_)
              refine wpLate_take (i := 0) (v := ?_) rfl (by kernel_rfl) (fun _ _ _ h => h) (Or.inl ⟨by rfl, ?_⟩) hHeld ?_
              rotate_left
              · (intro w hSw; (try dsimp only at hSw); go_simp; try with_reducible rfl)
              simp only [Act.put, List.setIfInBounds_toArray, List.set_cons_zero, List.set_cons_succ]
              refine wpLate_take (i := 1) (v := ?_) rfl (by kernel_rfl) (fun _ _ _ h => h) (Or.inl ⟨by rfl, ?_⟩) hHeld ?_
              rotate_left
              · (intro w hSw; (try dsimp only at hSw); go_simp; try with_reducible rfl)
              simp only [Act.put, List.setIfInBounds_toArray, List.set_cons_zero, List.set_cons_succ]
              refine wpLate_step (i := 2) (by kernel_rfl) rfl (fun K hK => ?_)
              go_simp
              (go_at_call 42; refine (cR.out _).mono ?_; rintro x_ w4 ⟨rfl, b4⟩; replace hq2 := Lib.hid (by first | exact hq2.out.below' b4 | exact hq2.out.drew.below' b4); replace hR2 := Lib.hid (by first | exact hR2.out.below' b4 | exact hR2.out.drew.below' b4); replace hBl2 := Lib.hid (isBldBelow (W := w2.drew) hBl2.out b4); replace hb2 := Lib.hid (by first | exact hb2.out.trans (b4.mono hb2.out.size) | exact hb2.out.drew.trans (b4.mono hb2.out.size)); replace g0 := (by have := hq2.out.cell 0; simpa using this); replace g1 := (by have := hq2.out.cell 1; simpa using this); replace g2 := (by have := hq2.out.cell 2; simpa using this); replace g3 := (by have := hq2.out.cell 3; simpa using this); replace g4 := (by have := hq2.out.cell 4; simpa using this); clear b4)
              refine hK.out _ _ ?_ (fun hHeld => ?_)
              · first | exact ⟨g0, g1, g2, g3, g4⟩ | (dsimp only; exact ⟨g0, g1, g2, g3, g4⟩)
              clear hK K
              try simp only [Act.put, List.setIfInBounds_toArray, List.set_cons_zero, List.set_cons_succ]
              refine wpLate_take (i := 3) (v := ?_) rfl (by kernel_rfl) (fun _ _ _ h => h) (Or.inl ⟨by rfl, ?_⟩) hHeld ?_
              rotate_left
              · (intro w hSw; (try dsimp only at hSw); go_simp; try with_reducible rfl)
              simp only [Act.put, List.setIfInBounds_toArray, List.set_cons_zero, List.set_cons_succ]
              refine wpLate_take (i := 4) (v := undef) rfl (by kernel_rfl) (fun _ _ _ h => h) (Or.inr ⟨by rfl, rfl⟩) hHeld ?_
              simp only [Act.put, List.setIfInBounds_toArray, List.set_cons_zero, List.set_cons_succ]
              refine wpLate_take (i := 5) (v := undef) rfl (by kernel_rfl) (fun _ _ _ h => h) (Or.inr ⟨by rfl, rfl⟩) hHeld ?_
              simp only [Act.put, List.setIfInBounds_toArray, List.set_cons_zero, List.set_cons_succ]
              refine wpLate_take (i := 6) (v := undef) rfl (by kernel_rfl) (fun _ _ _ h => h) (Or.inr ⟨by rfl, rfl⟩) hHeld ?_
              simp only [Act.put, List.setIfInBounds_toArray, List.set_cons_zero, List.set_cons_succ]
              refine wpLate_take (i := 7) (v := undef) rfl (by kernel_rfl) (fun _ _ _ h => h) (Or.inr ⟨by rfl, rfl⟩) hHeld ?_
              simp only [Act.put, List.setIfInBounds_toArray, List.set_cons_zero, List.set_cons_succ]
              refine wpLate_take (i := 8) (v := ?_) rfl (by kernel_rfl) (fun _ _ _ h => h) (Or.inl ⟨by rfl, ?_⟩) hHeld ?_
              rotate_left
              · (intro w hSw; (try dsimp only at hSw); go_simp; try with_reducible rfl)
              simp only [Act.put, List.setIfInBounds_toArray, List.set_cons_zero, List.set_cons_succ]
              have q0 := hR2.out.cell 0; simp at q0; have f0 := hR2.out.frozen 0; have q1 := hR2.out.cell 1; simp at q1; have f1 := hR2.out.frozen 1; have q2 := hR2.out.cell 2; simp at q2; have f2 := hR2.out.frozen 2; have q3 := hR2.out.cell 3; simp at q3; have f3 := hR2.out.frozen 3; have q4 := hR2.out.cell 4; simp at q4; have f4 := hR2.out.frozen 4
              have hq3 := (((((hq2.out.other ⟨w.heap.size, 0, none⟩ (.int .u8 3) hne).other ⟨w.heap.size, 1, none⟩ (.string ⟨#[]⟩) hne).other ⟨w.heap.size, 2, none⟩ (.int .i64 n) hne).other ⟨w.heap.size, 3, none⟩ (.int .i64 0) hne).other ⟨w.heap.size, 4, none⟩ (.bool false) hne)
              have hR3 := (((((hR2.out.set 0 (.int .u8 3)).set 1 (.string ⟨#[]⟩)).set 2 (.int .i64 n)).set 3 (.int .i64 0)).set 4 (.bool false))
              have e0 := hq3.cell 0; simp at e0; have e1 := hq3.cell 1; simp at e1; have e2 := hq3.cell 2; simp at e2; have e3 := hq3.cell 3; simp at e3; have e4 := hq3.cell 4; simp at e4
              refine wpLate_step (i := 9) (by kernel_rfl) rfl (fun K hK => ?_)
              go_simp
              refine hK.out _ _ ?_ (fun hHeld => ?_)
              · first | exact ⟨e0, e1, e2, e3, e4⟩ | (dsimp only; exact ⟨e0, e1, e2, e3, e4⟩)
              clear hK K
              try simp only [Act.put, List.setIfInBounds_toArray, List.set_cons_zero, List.set_cons_succ]
              clear q0 q1 q2 q3 q4 f0 f1 f2 f3 f4 e0 e1 e2 e3 e4 hq3 g0 g1 g2 g3 g4
              have z0 := hR3.cell 0; simp at z0; have z1 := hR3.cell 1; simp at z1; have z2 := hR3.cell 2; simp at z2; have z3 := hR3.cell 3; simp at z3; have z4 := hR3.cell 4; simp at z4
              refine wpLate_last (by kernel_rfl) rfl (by kernel_rfl) (fun K hK => ?_)
              go_simp
              refine hK.out _ _ ?_
              clear hK K
              go_wp2_with fail
              (try simp only [Exit.inBlock, Exit.then])
              refine bodyPost_ret (v := .tuple #[.agg #[.int .u8 3, .string ⟨#[]⟩, .int .i64 n, .int .i64 0, .bool false], .bool false]) (by simp [results, Tryd.results49, go_sem, z0, z1, z2, z3, z4]) rfl ?_
              exact ⟨rfl, (by refine below_set ?_ (Nat.le_refl _); refine below_set ?_ (Nat.le_refl _); refine below_set ?_ (Nat.le_refl _); refine below_set ?_ (Nat.le_refl _); refine below_set ?_ (Nat.le_refl _); exact hb2.out)⟩
            | true =>
              go_wp2_with fail
              refine wp_region_late (fun W => W.cell? ⟨wr.heap.size, 0, none⟩ = some (.int .u8 3) ∧ W.cell? ⟨wr.heap.size, 1, none⟩ = some (.string ⟨#[]⟩) ∧ W.cell? ⟨wr.heap.size, 2, none⟩ = some (.int .i64 n) ∧ W.cell? ⟨wr.heap.size, 3, none⟩ = some (.int .i64 0) ∧ W.cell? ⟨wr.heap.size, 4, none⟩ = some (.bool false)) 10 (by kernel_rfl) (by first | exact ⟨g0, g1, g2, g3, g4⟩ | (dsimp only; exact ⟨g0, g1, g2, g3, g4⟩)) (fun hHeld => ?_)
              refine wpLate_take (i := 0) (v := ?_) rfl (by kernel_rfl) (fun _ _ _ h => h) (Or.inl ⟨by rfl, ?_⟩) hHeld ?_
              rotate_left
              · (intro w hSw; (try dsimp only at hSw); go_simp; try with_reducible rfl)
              simp only [Act.put, List.setIfInBounds_toArray, List.set_cons_zero, List.set_cons_succ]
              refine wpLate_take (i := 1) (v := ?_) rfl (by kernel_rfl) (fun _ _ _ h => h) (Or.inl ⟨by rfl, ?_⟩) hHeld ?_
              rotate_left
              · (intro w hSw; (try dsimp only at hSw); go_simp; try with_reducible rfl)
              simp only [Act.put, List.setIfInBounds_toArray, List.set_cons_zero, List.set_cons_succ]
              refine wpLate_step (i := 2) (by kernel_rfl) rfl (fun K hK => ?_)
              go_simp
              (go_at_call 42; refine (cR.out _).mono ?_; rintro x_ w4 ⟨rfl, b4⟩; replace hq2 := Lib.hid (by first | exact hq2.out.below' b4 | exact hq2.out.drew.below' b4); replace hR2 := Lib.hid (by first | exact hR2.out.below' b4 | exact hR2.out.drew.below' b4); replace hBl2 := Lib.hid (isBldBelow (W := w2.drew) hBl2.out b4); replace hb2 := Lib.hid (by first | exact hb2.out.trans (b4.mono hb2.out.size) | exact hb2.out.drew.trans (b4.mono hb2.out.size)); replace g0 := (by have := hq2.out.cell 0; simpa using this); replace g1 := (by have := hq2.out.cell 1; simpa using this); replace g2 := (by have := hq2.out.cell 2; simpa using this); replace g3 := (by have := hq2.out.cell 3; simpa using this); replace g4 := (by have := hq2.out.cell 4; simpa using this); clear b4)
              refine hK.out _ _ ?_ (fun hHeld => ?_)
              · first | exact ⟨g0, g1, g2, g3, g4⟩ | (dsimp only; exact ⟨g0, g1, g2, g3, g4⟩)
              clear hK K
              try simp only [Act.put, List.setIfInBounds_toArray, List.set_cons_zero, List.set_cons_succ]
              refine wpLate_take (i := 3) (v := ?_) rfl (by kernel_rfl) (fun _ _ _ h => h) (Or.inl ⟨by rfl, ?_⟩) hHeld ?_
              rotate_left
              · (intro w hSw; (try dsimp only at hSw); go_simp; try with_reducible rfl)
              simp only [Act.put, List.setIfInBounds_toArray, List.set_cons_zero, List.set_cons_succ]
              refine wpLate_take (i := 5) (v := ?_) rfl (by kernel_rfl) (fun _ _ _ h => h) (Or.inl ⟨by rfl, ?_⟩) hHeld ?_
              rotate_left
              · (intro w hSw; (try dsimp only at hSw); go_simp; try with_reducible rfl)
              simp only [Act.put, List.setIfInBounds_toArray, List.set_cons_zero, List.set_cons_succ]
              refine wpLate_take (i := 6) (v := ?_) rfl (by kernel_rfl) (fun _ _ _ h => h) (Or.inl ⟨by rfl, ?_⟩) hHeld ?_
              rotate_left
              · (intro w hSw; (try dsimp only at hSw); go_simp; try with_reducible rfl)
              simp only [Act.put, List.setIfInBounds_toArray, List.set_cons_zero, List.set_cons_succ]
              refine wpLate_step (i := 4) (by kernel_rfl) rfl (fun K hK => ?_)
              go_simp
              (go_at_call 46; refine (Tryd.Builder_String_any_k _ _ _ _ hBl2.out hb2.out.size).mono ?_; rintro x_ w5 ⟨rfl, hBl3, b5, o5⟩; replace hq2 := Lib.hid (hq2.out.oth o5 hnq (by decide)); replace hR2 := Lib.hid (hR2.out.oth o5 hnR (by decide)); replace hb2 := Lib.hid (hb2.out.trans b5); clear hBl3 b5 o5; replace g0 := (by have := hq2.out.cell 0; simpa using this); replace g1 := (by have := hq2.out.cell 1; simpa using this); replace g2 := (by have := hq2.out.cell 2; simpa using this); replace g3 := (by have := hq2.out.cell 3; simpa using this); replace g4 := (by have := hq2.out.cell 4; simpa using this))
              refine hK.out _ _ ?_ (fun hHeld => ?_)
              · first | exact ⟨g0, g1, g2, g3, g4⟩ | (dsimp only; exact ⟨g0, g1, g2, g3, g4⟩)
              clear hK K
              try simp only [Act.put, List.setIfInBounds_toArray, List.set_cons_zero, List.set_cons_succ]
              refine wpLate_take (i := 7) (v := ?_) rfl (by kernel_rfl) (fun _ _ _ h => h) (Or.inl ⟨by rfl, ?_⟩) hHeld ?_
              rotate_left
              · (intro w hSw; (try dsimp only at hSw); go_simp; try with_reducible rfl)
              simp only [Act.put, List.setIfInBounds_toArray, List.set_cons_zero, List.set_cons_succ]
              refine wpLate_take (i := 8) (v := ?_) rfl (by kernel_rfl) (fun _ _ _ h => h) (Or.inl ⟨by rfl, ?_⟩) hHeld ?_
              rotate_left
              · (intro w hSw; (try dsimp only at hSw); go_simp; try with_reducible rfl)
              simp only [Act.put, List.setIfInBounds_toArray, List.set_cons_zero, List.set_cons_succ]
              have q0 := hR2.out.cell 0; simp at q0; have f0 := hR2.out.frozen 0; have q1 := hR2.out.cell 1; simp at q1; have f1 := hR2.out.frozen 1; have q2 := hR2.out.cell 2; simp at q2; have f2 := hR2.out.frozen 2; have q3 := hR2.out.cell 3; simp at q3; have f3 := hR2.out.frozen 3; have q4 := hR2.out.cell 4; simp at q4; have f4 := hR2.out.frozen 4
              have hq3 := (((((hq2.out.other ⟨w.heap.size, 0, none⟩ (.int .u8 3) hne).other ⟨w.heap.size, 1, none⟩ (.string ⟨#[]⟩) hne).other ⟨w.heap.size, 2, none⟩ (.int .i64 n) hne).other ⟨w.heap.size, 3, none⟩ (.int .i64 0) hne).other ⟨w.heap.size, 4, none⟩ (.bool false) hne)
              have hR3 := (((((hR2.out.set 0 (.int .u8 3)).set 1 (.string ⟨#[]⟩)).set 2 (.int .i64 n)).set 3 (.int .i64 0)).set 4 (.bool false))
              have e0 := hq3.cell 0; simp at e0; have e1 := hq3.cell 1; simp at e1; have e2 := hq3.cell 2; simp at e2; have e3 := hq3.cell 3; simp at e3; have e4 := hq3.cell 4; simp at e4
              refine wpLate_step (i := 9) (by kernel_rfl) rfl (fun K hK => ?_)
              go_simp
              refine hK.out _ _ ?_ (fun hHeld => ?_)
              · first | exact ⟨e0, e1, e2, e3, e4⟩ | (dsimp only; exact ⟨e0, e1, e2, e3, e4⟩)
              clear hK K
              try simp only [Act.put, List.setIfInBounds_toArray, List.set_cons_zero, List.set_cons_succ]
              clear q0 q1 q2 q3 q4 f0 f1 f2 f3 f4 e0 e1 e2 e3 e4 hq3 g0 g1 g2 g3 g4
              have z0 := hR3.cell 0; simp at z0; have z1 := hR3.cell 1; simp at z1; have z2 := hR3.cell 2; simp at z2; have z3 := hR3.cell 3; simp at z3; have z4 := hR3.cell 4; simp at z4
              refine wpLate_last (by kernel_rfl) rfl (by kernel_rfl) (fun K hK => ?_)
              go_simp
              refine hK.out _ _ ?_
              clear hK K
              go_wp2_with fail
              (try simp only [Exit.inBlock, Exit.then])
              refine bodyPost_ret (v := .tuple #[.agg #[.int .u8 3, .string ⟨#[]⟩, .int .i64 n, .int .i64 0, .bool false], .bool (Ln ++ [10] == (a0 ++ (⟨#[10]⟩ : ByteArray)).toList)]) (by simp [results, Tryd.results49, go_sem, z0, z1, z2, z3, z4]) rfl ?_
              exact ⟨by rw [end_eq]; rfl, (by refine below_set ?_ (Nat.le_refl _); refine below_set ?_ (Nat.le_refl _); refine below_set ?_ (Nat.le_refl _); refine below_set ?_ (Nat.le_refl _); refine below_set ?_ (Nat.le_refl _); exact hb2.out)⟩

          · replace hp : Lib.hasPrefix a0.data.toList (⟨#[98, 114, 101, 97, 107, 32]⟩ : ByteArray).data.toList = false := by simpa using hp
            rw [hp] at cP
            replace cP := Lib.hid cP
            go_wp2_with (go_at_call 76; refine cP.out.mono ?_; rintro e w' ⟨rfl, rfl⟩)
            go_roundw
            case rel => exact ⟨4, by go_num, by omega, Lib.hid (fun i h1 h2 => by rcases (by omega : i < 3 ∨ i = 3) with h3 | rfl; exact hno.out i h1 h3; exact hp), hbb, hR⟩
            case measure => simp [RowKit.intOf]
        · have hx : ∀ W, (Instr.index 112 (.agg A) (.int .i64 4)).run Tryd.prog W = .ok (.string (⟨#[104, 97, 114, 100]⟩ : ByteArray)) W := fun W => hI.out 4 (by omega) W
          have cP := Tryd.strings_HasPrefix a0 (⟨#[104, 97, 114, 100]⟩ : ByteArray) wr
          by_cases hp : Lib.hasPrefix a0.data.toList (⟨#[104, 97, 114, 100]⟩ : ByteArray).data.toList = true
          · rw [hp] at cP
            have hpl : (4 : Int) ≤ (a0.size : Int) := by
              have h7 := hasPrefix_len hp; have h8 := size_len a0; have h9 : (⟨#[104, 97, 114, 100]⟩ : ByteArray).data.toList.length = 4 := by decide
              omega
            have hrk : readK a0.data.toList = 4 := by
              unfold readK
              rw [if_neg (by rw [hno.out 1 (by omega) (by omega)]; simp)]
              rw [if_neg (by rw [hno.out 2 (by omega) (by omega)]; simp)]
              rw [if_neg (by rw [hno.out 3 (by omega) (by omega)]; simp)]
              rw [if_pos (show Lib.hasPrefix a0.data.toList (wordB 4) = true from hp)]
            have hE := h.out
            rw [hrk] at hE
            clear hno hI
            replace cP := Lib.hid cP; replace hp := Lib.hid hp; replace hrk := Lib.hid hrk; replace hE := Lib.hid hE; replace hpl := hpl
            have hzz := hbb.size
            have hlt9 := hR.out.lt
            have hq := Lib.hid (Blk.new wr #[.int .u8 4, .string ⟨#[]⟩, .int .i64 0, .int .i64 0, .bool false] TD)
            have hbq := Lib.hid (hbb.alloc hzz (.cells #[.int .u8 4, .string ⟨#[]⟩, .int .i64 0, .int .i64 0, .bool false] TD))
            have hRq := Lib.hid (hR.out.alloc (.cells #[.int .u8 4, .string ⟨#[]⟩, .int .i64 0, .int .i64 0, .bool false] TD))
            go_wp2_with (go_at_call 76; refine cP.out.mono ?_; rintro x_ w' ⟨rfl, h_⟩; obtain rfl : wr = w' := h_.symm)
            have hzX := hbq.out.size
            have hzs : (wr.alloc (.cells #[.int .u8 4, .string ⟨#[]⟩, .int .i64 0, .int .i64 0, .bool false] TD)).heap.size = wr.heap.size + 1 := by simp
            have hbld : Lib.IsBuilderF TB TU w.heap.size (wr.heap.size + 1) [] ((wr.alloc (.cells #[.int .u8 4, .string ⟨#[]⟩, .int .i64 0, .int .i64 0, .bool false] TD)).alloc (.cells #[.pointer none, .slice none 0 0] TB)) := by have := bldNew w.heap.size (wr.alloc (.cells #[.int .u8 4, .string ⟨#[]⟩, .int .i64 0, .int .i64 0, .bool false] TD)) hzX; rw [hzs] at this; exact this
            have hbX := Lib.hid (hbq.out.alloc hzX (.cells #[.pointer none, .slice none 0 0] TB))
            have hqX := Lib.hid (hq.out.alloc (.cells #[.pointer none, .slice none 0 0] TB))
            have hRX := Lib.hid (hRq.out.alloc (.cells #[.pointer none, .slice none 0 0] TB))
            have hqlt := hq.out.lt
            have hRlt := hRq.out.lt
            have cW : Calls Tryd.prog 45 #[.pointer (some ⟨wr.heap.size + 1, 0, none⟩), .agg #[.int .u8 4, .string ⟨#[]⟩, .int .i64 0, .int .i64 0, .bool false]] ((wr.alloc (.cells #[.int .u8 4, .string ⟨#[]⟩, .int .i64 0, .int .i64 0, .bool false] TD)).alloc (.cells #[.pointer none, .slice none 0 0] TB)) fun x w' => x = .returned (.tuple #[]) ∧ Wr w.heap.size (wr.heap.size + 1) ((wr.alloc (.cells #[.int .u8 4, .string ⟨#[]⟩, .int .i64 0, .int .i64 0, .bool false] TD)).alloc (.cells #[.pointer none, .slice none 0 0] TB)) [] (lineB 4 ⟨#[]⟩ 0 0 false ++ [10]) w' := doc_write (wr.heap.size + 1) 4 [] ⟨#[]⟩ 0 0 false w _ (by omega) hbld (by decide) hbX.out hT (by omega) (by omega)
            clear hbld
            refine cW.mono ?_
            clear cW
            rintro x_ w2 ⟨rfl, hW⟩
            have hb2 := Lib.hid (hbX.out.trans hW.2.1)
            have hq2 := Lib.hid (hqX.out.oth hW.2.2 (by omega) (by decide))
            have hR2 := Lib.hid (hRX.out.oth hW.2.2 (by omega) (by decide))
            have hBl2 : Hid (Lib.IsBuilderF TB TU w.heap.size _ (Lib.byteCells (lineB 4 ⟨#[]⟩ 0 0 false ++ [10])) w2) := Lib.hid (.inr (by simpa using hW.1))
            clear hW hqX hRX hq hRq
            have s2 := hb2.out.size
            obtain ⟨Ln, hLn⟩ : ∃ Ln, lineB 4 ⟨#[]⟩ 0 0 false = Ln := ⟨_, rfl⟩
            obtain ⟨rb, hrb⟩ : ∃ rb, rightB ⟨4, ⟨#[]⟩, 0, 0, false⟩ = rb := ⟨_, rfl⟩
            unfold readEnd at hE
            rw [hLn] at hBl2
            have hE := hE.out
            rw [if_pos (by decide), hLn, hrb] at hE
            have hE := Option.some.inj hE
            simp only [Prod.mk.injEq] at hE
            obtain ⟨rfl, rfl, rfl, rfl, rfl, rfl⟩ := hE
            have g0 := hq2.out.cell 0; have g1 := hq2.out.cell 1; have g2 := hq2.out.cell 2; have g3 := hq2.out.cell 3; have g4 := hq2.out.cell 4
            simp at g0 g1 g2 g3 g4
            have cR : ∀ W, Calls Tryd.prog 42 #[.agg #[.int .u8 4, .string ⟨#[]⟩, .int .i64 0, .int .i64 0, .bool false]] W fun e w' => e = .returned (.bool rb) ∧ Below W.heap.size W w' := fun W => by have := doc_right ⟨4, ⟨#[]⟩, 0, 0, false⟩ W; rw [hrb] at this; exact this
            replace cR := Lib.hid cR; replace hLn := Lib.hid hLn; replace hrb := Lib.hid hrb
            have hnz : ¬ (9223372036854775807 < a0.size + 1) := by omega
            have hne : w.heap.size ≠ wr.heap.size := by omega
            have hnq : wr.heap.size ≠ wr.heap.size + 1 := by omega
            have hnR : w.heap.size ≠ wr.heap.size + 1 := by omega
            cases rb with
            | false =>
              go_wp2_with fail
              refine wp_region_late (fun W => W.cell? ⟨wr.heap.size, 0, none⟩ = some (.int .u8 4) ∧ W.cell? ⟨wr.heap.size, 1, none⟩ = some (.string ⟨#[]⟩) ∧ W.cell? ⟨wr.heap.size, 2, none⟩ = some (.int .i64 0) ∧ W.cell? ⟨wr.heap.size, 3, none⟩ = some (.int .i64 0) ∧ W.cell? ⟨wr.heap.size, 4, none⟩ = some (.bool false)) 10 (by kernel_rfl) (by first | exact ⟨g0, g1, g2, g3, g4⟩ | (dsimp only; exact ⟨g0, g1, g2, g3, g4⟩)) (fun hHeld => ?_)
              refine wpLate_take (i := 0) (v := ?_) rfl (by kernel_rfl) (fun _ _ _ h => h) (Or.inl ⟨by rfl, ?_⟩) hHeld ?_
              rotate_left
              · (intro w hSw; (try dsimp only at hSw); go_simp; try with_reducible rfl)
              simp only [Act.put, List.setIfInBounds_toArray, List.set_cons_zero, List.set_cons_succ]
              refine wpLate_take (i := 1) (v := ?_) rfl (by kernel_rfl) (fun _ _ _ h => h) (Or.inl ⟨by rfl, ?_⟩) hHeld ?_
              rotate_left
              · (intro w hSw; (try dsimp only at hSw); go_simp; try with_reducible rfl)
              simp only [Act.put, List.setIfInBounds_toArray, List.set_cons_zero, List.set_cons_succ]
              refine wpLate_step (i := 2) (by kernel_rfl) rfl (fun K hK => ?_)
              go_simp
              (go_at_call 42; refine (cR.out _).mono ?_; rintro x_ w4 ⟨rfl, b4⟩; replace hq2 := Lib.hid (by first | exact hq2.out.below' b4 | exact hq2.out.drew.below' b4); replace hR2 := Lib.hid (by first | exact hR2.out.below' b4 | exact hR2.out.drew.below' b4); replace hBl2 := Lib.hid (isBldBelow (W := w2.drew) hBl2.out b4); replace hb2 := Lib.hid (by first | exact hb2.out.trans (b4.mono hb2.out.size) | exact hb2.out.drew.trans (b4.mono hb2.out.size)); replace g0 := (by have := hq2.out.cell 0; simpa using this); replace g1 := (by have := hq2.out.cell 1; simpa using this); replace g2 := (by have := hq2.out.cell 2; simpa using this); replace g3 := (by have := hq2.out.cell 3; simpa using this); replace g4 := (by have := hq2.out.cell 4; simpa using this); clear b4)
              refine hK.out _ _ ?_ (fun hHeld => ?_)
              · first | exact ⟨g0, g1, g2, g3, g4⟩ | (dsimp only; exact ⟨g0, g1, g2, g3, g4⟩)
              clear hK K
              try simp only [Act.put, List.setIfInBounds_toArray, List.set_cons_zero, List.set_cons_succ]
              refine wpLate_take (i := 3) (v := ?_) rfl (by kernel_rfl) (fun _ _ _ h => h) (Or.inl ⟨by rfl, ?_⟩) hHeld ?_
              rotate_left
              · (intro w hSw; (try dsimp only at hSw); go_simp; try with_reducible rfl)
              simp only [Act.put, List.setIfInBounds_toArray, List.set_cons_zero, List.set_cons_succ]
              refine wpLate_take (i := 4) (v := undef) rfl (by kernel_rfl) (fun _ _ _ h => h) (Or.inr ⟨by rfl, rfl⟩) hHeld ?_
              simp only [Act.put, List.setIfInBounds_toArray, List.set_cons_zero, List.set_cons_succ]
              refine wpLate_take (i := 5) (v := undef) rfl (by kernel_rfl) (fun _ _ _ h => h) (Or.inr ⟨by rfl, rfl⟩) hHeld ?_
              simp only [Act.put, List.setIfInBounds_toArray, List.set_cons_zero, List.set_cons_succ]
              refine wpLate_take (i := 6) (v := undef) rfl (by kernel_rfl) (fun _ _ _ h => h) (Or.inr ⟨by rfl, rfl⟩) hHeld ?_
              simp only [Act.put, List.setIfInBounds_toArray, List.set_cons_zero, List.set_cons_succ]
              refine wpLate_take (i := 7) (v := undef) rfl (by kernel_rfl) (fun _ _ _ h => h) (Or.inr ⟨by rfl, rfl⟩) hHeld ?_
              simp only [Act.put, List.setIfInBounds_toArray, List.set_cons_zero, List.set_cons_succ]
              refine wpLate_take (i := 8) (v := ?_) rfl (by kernel_rfl) (fun _ _ _ h => h) (Or.inl ⟨by rfl, ?_⟩) hHeld ?_
              rotate_left
              · (intro w hSw; (try dsimp only at hSw); go_simp; try with_reducible rfl)
              simp only [Act.put, List.setIfInBounds_toArray, List.set_cons_zero, List.set_cons_succ]
              have q0 := hR2.out.cell 0; simp at q0; have f0 := hR2.out.frozen 0; have q1 := hR2.out.cell 1; simp at q1; have f1 := hR2.out.frozen 1; have q2 := hR2.out.cell 2; simp at q2; have f2 := hR2.out.frozen 2; have q3 := hR2.out.cell 3; simp at q3; have f3 := hR2.out.frozen 3; have q4 := hR2.out.cell 4; simp at q4; have f4 := hR2.out.frozen 4
              have hq3 := (((((hq2.out.other ⟨w.heap.size, 0, none⟩ (.int .u8 4) hne).other ⟨w.heap.size, 1, none⟩ (.string ⟨#[]⟩) hne).other ⟨w.heap.size, 2, none⟩ (.int .i64 0) hne).other ⟨w.heap.size, 3, none⟩ (.int .i64 0) hne).other ⟨w.heap.size, 4, none⟩ (.bool false) hne)
              have hR3 := (((((hR2.out.set 0 (.int .u8 4)).set 1 (.string ⟨#[]⟩)).set 2 (.int .i64 0)).set 3 (.int .i64 0)).set 4 (.bool false))
              have e0 := hq3.cell 0; simp at e0; have e1 := hq3.cell 1; simp at e1; have e2 := hq3.cell 2; simp at e2; have e3 := hq3.cell 3; simp at e3; have e4 := hq3.cell 4; simp at e4
              refine wpLate_step (i := 9) (by kernel_rfl) rfl (fun K hK => ?_)
              go_simp
              refine hK.out _ _ ?_ (fun hHeld => ?_)
              · first | exact ⟨e0, e1, e2, e3, e4⟩ | (dsimp only; exact ⟨e0, e1, e2, e3, e4⟩)
              clear hK K
              try simp only [Act.put, List.setIfInBounds_toArray, List.set_cons_zero, List.set_cons_succ]
              clear q0 q1 q2 q3 q4 f0 f1 f2 f3 f4 e0 e1 e2 e3 e4 hq3 g0 g1 g2 g3 g4
              have z0 := hR3.cell 0; simp at z0; have z1 := hR3.cell 1; simp at z1; have z2 := hR3.cell 2; simp at z2; have z3 := hR3.cell 3; simp at z3; have z4 := hR3.cell 4; simp at z4
              refine wpLate_last (by kernel_rfl) rfl (by kernel_rfl) (fun K hK => ?_)
              go_simp
              refine hK.out _ _ ?_
              clear hK K
              go_wp2_with fail
              (try simp only [Exit.inBlock, Exit.then])
              refine bodyPost_ret (v := .tuple #[.agg #[.int .u8 4, .string ⟨#[]⟩, .int .i64 0, .int .i64 0, .bool false], .bool false]) (by simp [results, Tryd.results49, go_sem, z0, z1, z2, z3, z4]) rfl ?_
              exact ⟨rfl, (by refine below_set ?_ (Nat.le_refl _); refine below_set ?_ (Nat.le_refl _); refine below_set ?_ (Nat.le_refl _); refine below_set ?_ (Nat.le_refl _); refine below_set ?_ (Nat.le_refl _); exact hb2.out)⟩
            | true =>
              go_wp2_with fail
              refine wp_region_late (fun W => W.cell? ⟨wr.heap.size, 0, none⟩ = some (.int .u8 4) ∧ W.cell? ⟨wr.heap.size, 1, none⟩ = some (.string ⟨#[]⟩) ∧ W.cell? ⟨wr.heap.size, 2, none⟩ = some (.int .i64 0) ∧ W.cell? ⟨wr.heap.size, 3, none⟩ = some (.int .i64 0) ∧ W.cell? ⟨wr.heap.size, 4, none⟩ = some (.bool false)) 10 (by kernel_rfl) (by first | exact ⟨g0, g1, g2, g3, g4⟩ | (dsimp only; exact ⟨g0, g1, g2, g3, g4⟩)) (fun hHeld => ?_)
              refine wpLate_take (i := 0) (v := ?_) rfl (by kernel_rfl) (fun _ _ _ h => h) (Or.inl ⟨by rfl, ?_⟩) hHeld ?_
              rotate_left
              · (intro w hSw; (try dsimp only at hSw); go_simp; try with_reducible rfl)
              simp only [Act.put, List.setIfInBounds_toArray, List.set_cons_zero, List.set_cons_succ]
              refine wpLate_take (i := 1) (v := ?_) rfl (by kernel_rfl) (fun _ _ _ h => h) (Or.inl ⟨by rfl, ?_⟩) hHeld ?_
              rotate_left
              · (intro w hSw; (try dsimp only at hSw); go_simp; try with_reducible rfl)
              simp only [Act.put, List.setIfInBounds_toArray, List.set_cons_zero, List.set_cons_succ]
              refine wpLate_step (i := 2) (by kernel_rfl) rfl (fun K hK => ?_)
              go_simp
              (go_at_call 42; refine (cR.out _).mono ?_; rintro x_ w4 ⟨rfl, b4⟩; replace hq2 := Lib.hid (by first | exact hq2.out.below' b4 | exact hq2.out.drew.below' b4); replace hR2 := Lib.hid (by first | exact hR2.out.below' b4 | exact hR2.out.drew.below' b4); replace hBl2 := Lib.hid (isBldBelow (W := w2.drew) hBl2.out b4); replace hb2 := Lib.hid (by first | exact hb2.out.trans (b4.mono hb2.out.size) | exact hb2.out.drew.trans (b4.mono hb2.out.size)); replace g0 := (by have := hq2.out.cell 0; simpa using this); replace g1 := (by have := hq2.out.cell 1; simpa using this); replace g2 := (by have := hq2.out.cell 2; simpa using this); replace g3 := (by have := hq2.out.cell 3; simpa using this); replace g4 := (by have := hq2.out.cell 4; simpa using this); clear b4)
              refine hK.out _ _ ?_ (fun hHeld => ?_)
              · first | exact ⟨g0, g1, g2, g3, g4⟩ | (dsimp only; exact ⟨g0, g1, g2, g3, g4⟩)
              clear hK K
              try simp only [Act.put, List.setIfInBounds_toArray, List.set_cons_zero, List.set_cons_succ]
              refine wpLate_take (i := 3) (v := ?_) rfl (by kernel_rfl) (fun _ _ _ h => h) (Or.inl ⟨by rfl, ?_⟩) hHeld ?_
              rotate_left
              · (intro w hSw; (try dsimp only at hSw); go_simp; try with_reducible rfl)
              simp only [Act.put, List.setIfInBounds_toArray, List.set_cons_zero, List.set_cons_succ]
              refine wpLate_take (i := 5) (v := ?_) rfl (by kernel_rfl) (fun _ _ _ h => h) (Or.inl ⟨by rfl, ?_⟩) hHeld ?_
              rotate_left
              · (intro w hSw; (try dsimp only at hSw); go_simp; try with_reducible rfl)
              simp only [Act.put, List.setIfInBounds_toArray, List.set_cons_zero, List.set_cons_succ]
              refine wpLate_take (i := 6) (v := ?_) rfl (by kernel_rfl) (fun _ _ _ h => h) (Or.inl ⟨by rfl, ?_⟩) hHeld ?_
              rotate_left
              · (intro w hSw; (try dsimp only at hSw); go_simp; try with_reducible rfl)
              simp only [Act.put, List.setIfInBounds_toArray, List.set_cons_zero, List.set_cons_succ]
              refine wpLate_step (i := 4) (by kernel_rfl) rfl (fun K hK => ?_)
              go_simp
              (go_at_call 46; refine (Tryd.Builder_String_any_k _ _ _ _ hBl2.out hb2.out.size).mono ?_; rintro x_ w5 ⟨rfl, hBl3, b5, o5⟩; replace hq2 := Lib.hid (hq2.out.oth o5 hnq (by decide)); replace hR2 := Lib.hid (hR2.out.oth o5 hnR (by decide)); replace hb2 := Lib.hid (hb2.out.trans b5); clear hBl3 b5 o5; replace g0 := (by have := hq2.out.cell 0; simpa using this); replace g1 := (by have := hq2.out.cell 1; simpa using this); replace g2 := (by have := hq2.out.cell 2; simpa using this); replace g3 := (by have := hq2.out.cell 3; simpa using this); replace g4 := (by have := hq2.out.cell 4; simpa using this))
              refine hK.out _ _ ?_ (fun hHeld => ?_)
              · first | exact ⟨g0, g1, g2, g3, g4⟩ | (dsimp only; exact ⟨g0, g1, g2, g3, g4⟩)
              clear hK K
              try simp only [Act.put, List.setIfInBounds_toArray, List.set_cons_zero, List.set_cons_succ]
              refine wpLate_take (i := 7) (v := ?_) rfl (by kernel_rfl) (fun _ _ _ h => h) (Or.inl ⟨by rfl, ?_⟩) hHeld ?_
              rotate_left
              · (intro w hSw; (try dsimp only at hSw); go_simp; try with_reducible rfl)
              simp only [Act.put, List.setIfInBounds_toArray, List.set_cons_zero, List.set_cons_succ]
              refine wpLate_take (i := 8) (v := ?_) rfl (by kernel_rfl) (fun _ _ _ h => h) (Or.inl ⟨by rfl, ?_⟩) hHeld ?_
              rotate_left
              · (intro w hSw; (try dsimp only at hSw); go_simp; try with_reducible rfl)
              simp only [Act.put, List.setIfInBounds_toArray, List.set_cons_zero, List.set_cons_succ]
              have q0 := hR2.out.cell 0; simp at q0; have f0 := hR2.out.frozen 0; have q1 := hR2.out.cell 1; simp at q1; have f1 := hR2.out.frozen 1; have q2 := hR2.out.cell 2; simp at q2; have f2 := hR2.out.frozen 2; have q3 := hR2.out.cell 3; simp at q3; have f3 := hR2.out.frozen 3; have q4 := hR2.out.cell 4; simp at q4; have f4 := hR2.out.frozen 4
              have hq3 := (((((hq2.out.other ⟨w.heap.size, 0, none⟩ (.int .u8 4) hne).other ⟨w.heap.size, 1, none⟩ (.string ⟨#[]⟩) hne).other ⟨w.heap.size, 2, none⟩ (.int .i64 0) hne).other ⟨w.heap.size, 3, none⟩ (.int .i64 0) hne).other ⟨w.heap.size, 4, none⟩ (.bool false) hne)
              have hR3 := (((((hR2.out.set 0 (.int .u8 4)).set 1 (.string ⟨#[]⟩)).set 2 (.int .i64 0)).set 3 (.int .i64 0)).set 4 (.bool false))
              have e0 := hq3.cell 0; simp at e0; have e1 := hq3.cell 1; simp at e1; have e2 := hq3.cell 2; simp at e2; have e3 := hq3.cell 3; simp at e3; have e4 := hq3.cell 4; simp at e4
              refine wpLate_step (i := 9) (by kernel_rfl) rfl (fun K hK => ?_)
              go_simp
              refine hK.out _ _ ?_ (fun hHeld => ?_)
              · first | exact ⟨e0, e1, e2, e3, e4⟩ | (dsimp only; exact ⟨e0, e1, e2, e3, e4⟩)
              clear hK K
              try simp only [Act.put, List.setIfInBounds_toArray, List.set_cons_zero, List.set_cons_succ]
              clear q0 q1 q2 q3 q4 f0 f1 f2 f3 f4 e0 e1 e2 e3 e4 hq3 g0 g1 g2 g3 g4
              have z0 := hR3.cell 0; simp at z0; have z1 := hR3.cell 1; simp at z1; have z2 := hR3.cell 2; simp at z2; have z3 := hR3.cell 3; simp at z3; have z4 := hR3.cell 4; simp at z4
              refine wpLate_last (by kernel_rfl) rfl (by kernel_rfl) (fun K hK => ?_)
              go_simp
              refine hK.out _ _ ?_
              clear hK K
              go_wp2_with fail
              (try simp only [Exit.inBlock, Exit.then])
              refine bodyPost_ret (v := .tuple #[.agg #[.int .u8 4, .string ⟨#[]⟩, .int .i64 0, .int .i64 0, .bool false], .bool (Ln ++ [10] == (a0 ++ (⟨#[10]⟩ : ByteArray)).toList)]) (by simp [results, Tryd.results49, go_sem, z0, z1, z2, z3, z4]) rfl ?_
              exact ⟨by rw [end_eq]; rfl, (by refine below_set ?_ (Nat.le_refl _); refine below_set ?_ (Nat.le_refl _); refine below_set ?_ (Nat.le_refl _); refine below_set ?_ (Nat.le_refl _); refine below_set ?_ (Nat.le_refl _); exact hb2.out)⟩

          · replace hp : Lib.hasPrefix a0.data.toList (⟨#[104, 97, 114, 100]⟩ : ByteArray).data.toList = false := by simpa using hp
            rw [hp] at cP
            replace cP := Lib.hid cP
            go_wp2_with (go_at_call 76; refine cP.out.mono ?_; rintro e w' ⟨rfl, rfl⟩)
            go_roundw
            case rel => exact ⟨5, by go_num, by omega, Lib.hid (fun i h1 h2 => by rcases (by omega : i < 4 ∨ i = 4) with h3 | rfl; exact hno.out i h1 h3; exact hp), hbb, hR⟩
            case measure => simp [RowKit.intOf]
        · have hx : ∀ W, (Instr.index 112 (.agg A) (.int .i64 5)).run Tryd.prog W = .ok (.string (⟨#[101, 109, 112, 116, 121]⟩ : ByteArray)) W := fun W => hI.out 5 (by omega) W
          have cP := Tryd.strings_HasPrefix a0 (⟨#[101, 109, 112, 116, 121]⟩ : ByteArray) wr
          by_cases hp : Lib.hasPrefix a0.data.toList (⟨#[101, 109, 112, 116, 121]⟩ : ByteArray).data.toList = true
          · rw [hp] at cP
            have hpl : (5 : Int) ≤ (a0.size : Int) := by
              have h7 := hasPrefix_len hp; have h8 := size_len a0; have h9 : (⟨#[101, 109, 112, 116, 121]⟩ : ByteArray).data.toList.length = 5 := by decide
              omega
            have hrk : readK a0.data.toList = 5 := by
              unfold readK
              rw [if_neg (by rw [hno.out 1 (by omega) (by omega)]; simp)]
              rw [if_neg (by rw [hno.out 2 (by omega) (by omega)]; simp)]
              rw [if_neg (by rw [hno.out 3 (by omega) (by omega)]; simp)]
              rw [if_neg (by rw [hno.out 4 (by omega) (by omega)]; simp)]
              rw [if_pos (show Lib.hasPrefix a0.data.toList (wordB 5) = true from hp)]
            have hE := h.out
            rw [hrk] at hE
            clear hno hI
            replace cP := Lib.hid cP; replace hp := Lib.hid hp; replace hrk := Lib.hid hrk; replace hE := Lib.hid hE; replace hpl := hpl
            have hzz := hbb.size
            have hlt9 := hR.out.lt
            have hq := Lib.hid (Blk.new wr #[.int .u8 5, .string ⟨#[]⟩, .int .i64 0, .int .i64 0, .bool false] TD)
            have hbq := Lib.hid (hbb.alloc hzz (.cells #[.int .u8 5, .string ⟨#[]⟩, .int .i64 0, .int .i64 0, .bool false] TD))
            have hRq := Lib.hid (hR.out.alloc (.cells #[.int .u8 5, .string ⟨#[]⟩, .int .i64 0, .int .i64 0, .bool false] TD))
            go_wp2_with (go_at_call 76; refine cP.out.mono ?_; rintro x_ w' ⟨rfl, h_⟩; obtain rfl : wr = w' := h_.symm)
            have hzX := hbq.out.size
            have hzs : (wr.alloc (.cells #[.int .u8 5, .string ⟨#[]⟩, .int .i64 0, .int .i64 0, .bool false] TD)).heap.size = wr.heap.size + 1 := by simp
            have hbld : Lib.IsBuilderF TB TU w.heap.size (wr.heap.size + 1) [] ((wr.alloc (.cells #[.int .u8 5, .string ⟨#[]⟩, .int .i64 0, .int .i64 0, .bool false] TD)).alloc (.cells #[.pointer none, .slice none 0 0] TB)) := by have := bldNew w.heap.size (wr.alloc (.cells #[.int .u8 5, .string ⟨#[]⟩, .int .i64 0, .int .i64 0, .bool false] TD)) hzX; rw [hzs] at this; exact this
            have hbX := Lib.hid (hbq.out.alloc hzX (.cells #[.pointer none, .slice none 0 0] TB))
            have hqX := Lib.hid (hq.out.alloc (.cells #[.pointer none, .slice none 0 0] TB))
            have hRX := Lib.hid (hRq.out.alloc (.cells #[.pointer none, .slice none 0 0] TB))
            have hqlt := hq.out.lt
            have hRlt := hRq.out.lt
            have cW : Calls Tryd.prog 45 #[.pointer (some ⟨wr.heap.size + 1, 0, none⟩), .agg #[.int .u8 5, .string ⟨#[]⟩, .int .i64 0, .int .i64 0, .bool false]] ((wr.alloc (.cells #[.int .u8 5, .string ⟨#[]⟩, .int .i64 0, .int .i64 0, .bool false] TD)).alloc (.cells #[.pointer none, .slice none 0 0] TB)) fun x w' => x = .returned (.tuple #[]) ∧ Wr w.heap.size (wr.heap.size + 1) ((wr.alloc (.cells #[.int .u8 5, .string ⟨#[]⟩, .int .i64 0, .int .i64 0, .bool false] TD)).alloc (.cells #[.pointer none, .slice none 0 0] TB)) [] (lineB 5 ⟨#[]⟩ 0 0 false ++ [10]) w' := doc_write (wr.heap.size + 1) 5 [] ⟨#[]⟩ 0 0 false w _ (by omega) hbld (by decide) hbX.out hT (by omega) (by omega)
            clear hbld
            refine cW.mono ?_
            clear cW
            rintro x_ w2 ⟨rfl, hW⟩
            have hb2 := Lib.hid (hbX.out.trans hW.2.1)
            have hq2 := Lib.hid (hqX.out.oth hW.2.2 (by omega) (by decide))
            have hR2 := Lib.hid (hRX.out.oth hW.2.2 (by omega) (by decide))
            have hBl2 : Hid (Lib.IsBuilderF TB TU w.heap.size _ (Lib.byteCells (lineB 5 ⟨#[]⟩ 0 0 false ++ [10])) w2) := Lib.hid (.inr (by simpa using hW.1))
            clear hW hqX hRX hq hRq
            have s2 := hb2.out.size
            obtain ⟨Ln, hLn⟩ : ∃ Ln, lineB 5 ⟨#[]⟩ 0 0 false = Ln := ⟨_, rfl⟩
            obtain ⟨rb, hrb⟩ : ∃ rb, rightB ⟨5, ⟨#[]⟩, 0, 0, false⟩ = rb := ⟨_, rfl⟩
            unfold readEnd at hE
            rw [hLn] at hBl2
            have hE := hE.out
            rw [if_pos (by decide), hLn, hrb] at hE
            have hE := Option.some.inj hE
            simp only [Prod.mk.injEq] at hE
            obtain ⟨rfl, rfl, rfl, rfl, rfl, rfl⟩ := hE
            have g0 := hq2.out.cell 0; have g1 := hq2.out.cell 1; have g2 := hq2.out.cell 2; have g3 := hq2.out.cell 3; have g4 := hq2.out.cell 4
            simp at g0 g1 g2 g3 g4
            have cR : ∀ W, Calls Tryd.prog 42 #[.agg #[.int .u8 5, .string ⟨#[]⟩, .int .i64 0, .int .i64 0, .bool false]] W fun e w' => e = .returned (.bool rb) ∧ Below W.heap.size W w' := fun W => by have := doc_right ⟨5, ⟨#[]⟩, 0, 0, false⟩ W; rw [hrb] at this; exact this
            replace cR := Lib.hid cR; replace hLn := Lib.hid hLn; replace hrb := Lib.hid hrb
            have hnz : ¬ (9223372036854775807 < a0.size + 1) := by omega
            have hne : w.heap.size ≠ wr.heap.size := by omega
            have hnq : wr.heap.size ≠ wr.heap.size + 1 := by omega
            have hnR : w.heap.size ≠ wr.heap.size + 1 := by omega
            cases rb with
            | false =>
              go_wp2_with fail
              refine wp_region_late (fun W => W.cell? ⟨wr.heap.size, 0, none⟩ = some (.int .u8 5) ∧ W.cell? ⟨wr.heap.size, 1, none⟩ = some (.string ⟨#[]⟩) ∧ W.cell? ⟨wr.heap.size, 2, none⟩ = some (.int .i64 0) ∧ W.cell? ⟨wr.heap.size, 3, none⟩ = some (.int .i64 0) ∧ W.cell? ⟨wr.heap.size, 4, none⟩ = some (.bool false)) 10 (by kernel_rfl) (by first | exact ⟨g0, g1, g2, g3, g4⟩ | (dsimp only; exact ⟨g0, g1, g2, g3, g4⟩)) (fun hHeld => ?_)
              refine wpLate_take (i := 0) (v := ?_) rfl (by kernel_rfl) (fun _ _ _ h => h) (Or.inl ⟨by rfl, ?_⟩) hHeld ?_
              rotate_left
              · (intro w hSw; (try dsimp only at hSw); go_simp; try with_reducible rfl)
              simp only [Act.put, List.setIfInBounds_toArray, List.set_cons_zero, List.set_cons_succ]
              refine wpLate_take (i := 1) (v := ?_) rfl (by kernel_rfl) (fun _ _ _ h => h) (Or.inl ⟨by rfl, ?_⟩) hHeld ?_
              rotate_left
              · (intro w hSw; (try dsimp only at hSw); go_simp; try with_reducible rfl)
              simp only [Act.put, List.setIfInBounds_toArray, List.set_cons_zero, List.set_cons_succ]
              refine wpLate_step (i := 2) (by kernel_rfl) rfl (fun K hK => ?_)
              go_simp
              (go_at_call 42; refine (cR.out _).mono ?_; rintro x_ w4 ⟨rfl, b4⟩; replace hq2 := Lib.hid (by first | exact hq2.out.below' b4 | exact hq2.out.drew.below' b4); replace hR2 := Lib.hid (by first | exact hR2.out.below' b4 | exact hR2.out.drew.below' b4); replace hBl2 := Lib.hid (isBldBelow (W := w2.drew) hBl2.out b4); replace hb2 := Lib.hid (by first | exact hb2.out.trans (b4.mono hb2.out.size) | exact hb2.out.drew.trans (b4.mono hb2.out.size)); replace g0 := (by have := hq2.out.cell 0; simpa using this); replace g1 := (by have := hq2.out.cell 1; simpa using this); replace g2 := (by have := hq2.out.cell 2; simpa using this); replace g3 := (by have := hq2.out.cell 3; simpa using this); replace g4 := (by have := hq2.out.cell 4; simpa using this); clear b4)
              refine hK.out _ _ ?_ (fun hHeld => ?_)
              · first | exact ⟨g0, g1, g2, g3, g4⟩ | (dsimp only; exact ⟨g0, g1, g2, g3, g4⟩)
              clear hK K
              try simp only [Act.put, List.setIfInBounds_toArray, List.set_cons_zero, List.set_cons_succ]
              refine wpLate_take (i := 3) (v := ?_) rfl (by kernel_rfl) (fun _ _ _ h => h) (Or.inl ⟨by rfl, ?_⟩) hHeld ?_
              rotate_left
              · (intro w hSw; (try dsimp only at hSw); go_simp; try with_reducible rfl)
              simp only [Act.put, List.setIfInBounds_toArray, List.set_cons_zero, List.set_cons_succ]
              refine wpLate_take (i := 4) (v := undef) rfl (by kernel_rfl) (fun _ _ _ h => h) (Or.inr ⟨by rfl, rfl⟩) hHeld ?_
              simp only [Act.put, List.setIfInBounds_toArray, List.set_cons_zero, List.set_cons_succ]
              refine wpLate_take (i := 5) (v := undef) rfl (by kernel_rfl) (fun _ _ _ h => h) (Or.inr ⟨by rfl, rfl⟩) hHeld ?_
              simp only [Act.put, List.setIfInBounds_toArray, List.set_cons_zero, List.set_cons_succ]
              refine wpLate_take (i := 6) (v := undef) rfl (by kernel_rfl) (fun _ _ _ h => h) (Or.inr ⟨by rfl, rfl⟩) hHeld ?_
              simp only [Act.put, List.setIfInBounds_toArray, List.set_cons_zero, List.set_cons_succ]
              refine wpLate_take (i := 7) (v := undef) rfl (by kernel_rfl) (fun _ _ _ h => h) (Or.inr ⟨by rfl, rfl⟩) hHeld ?_
              simp only [Act.put, List.setIfInBounds_toArray, List.set_cons_zero, List.set_cons_succ]
              refine wpLate_take (i := 8) (v := ?_) rfl (by kernel_rfl) (fun _ _ _ h => h) (Or.inl ⟨by rfl, ?_⟩) hHeld ?_
              rotate_left
              · (intro w hSw; (try dsimp only at hSw); go_simp; try with_reducible rfl)
              simp only [Act.put, List.setIfInBounds_toArray, List.set_cons_zero, List.set_cons_succ]
              have q0 := hR2.out.cell 0; simp at q0; have f0 := hR2.out.frozen 0; have q1 := hR2.out.cell 1; simp at q1; have f1 := hR2.out.frozen 1; have q2 := hR2.out.cell 2; simp at q2; have f2 := hR2.out.frozen 2; have q3 := hR2.out.cell 3; simp at q3; have f3 := hR2.out.frozen 3; have q4 := hR2.out.cell 4; simp at q4; have f4 := hR2.out.frozen 4
              have hq3 := (((((hq2.out.other ⟨w.heap.size, 0, none⟩ (.int .u8 5) hne).other ⟨w.heap.size, 1, none⟩ (.string ⟨#[]⟩) hne).other ⟨w.heap.size, 2, none⟩ (.int .i64 0) hne).other ⟨w.heap.size, 3, none⟩ (.int .i64 0) hne).other ⟨w.heap.size, 4, none⟩ (.bool false) hne)
              have hR3 := (((((hR2.out.set 0 (.int .u8 5)).set 1 (.string ⟨#[]⟩)).set 2 (.int .i64 0)).set 3 (.int .i64 0)).set 4 (.bool false))
              have e0 := hq3.cell 0; simp at e0; have e1 := hq3.cell 1; simp at e1; have e2 := hq3.cell 2; simp at e2; have e3 := hq3.cell 3; simp at e3; have e4 := hq3.cell 4; simp at e4
              refine wpLate_step (i := 9) (by kernel_rfl) rfl (fun K hK => ?_)
              go_simp
              refine hK.out _ _ ?_ (fun hHeld => ?_)
              · first | exact ⟨e0, e1, e2, e3, e4⟩ | (dsimp only; exact ⟨e0, e1, e2, e3, e4⟩)
              clear hK K
              try simp only [Act.put, List.setIfInBounds_toArray, List.set_cons_zero, List.set_cons_succ]
              clear q0 q1 q2 q3 q4 f0 f1 f2 f3 f4 e0 e1 e2 e3 e4 hq3 g0 g1 g2 g3 g4
              have z0 := hR3.cell 0; simp at z0; have z1 := hR3.cell 1; simp at z1; have z2 := hR3.cell 2; simp at z2; have z3 := hR3.cell 3; simp at z3; have z4 := hR3.cell 4; simp at z4
              refine wpLate_last (by kernel_rfl) rfl (by kernel_rfl) (fun K hK => ?_)
              go_simp
              refine hK.out _ _ ?_
              clear hK K
              go_wp2_with fail
              (try simp only [Exit.inBlock, Exit.then])
              refine bodyPost_ret (v := .tuple #[.agg #[.int .u8 5, .string ⟨#[]⟩, .int .i64 0, .int .i64 0, .bool false], .bool false]) (by simp [results, Tryd.results49, go_sem, z0, z1, z2, z3, z4]) rfl ?_
              exact ⟨rfl, (by refine below_set ?_ (Nat.le_refl _); refine below_set ?_ (Nat.le_refl _); refine below_set ?_ (Nat.le_refl _); refine below_set ?_ (Nat.le_refl _); refine below_set ?_ (Nat.le_refl _); exact hb2.out)⟩
            | true =>
              go_wp2_with fail
              refine wp_region_late (fun W => W.cell? ⟨wr.heap.size, 0, none⟩ = some (.int .u8 5) ∧ W.cell? ⟨wr.heap.size, 1, none⟩ = some (.string ⟨#[]⟩) ∧ W.cell? ⟨wr.heap.size, 2, none⟩ = some (.int .i64 0) ∧ W.cell? ⟨wr.heap.size, 3, none⟩ = some (.int .i64 0) ∧ W.cell? ⟨wr.heap.size, 4, none⟩ = some (.bool false)) 10 (by kernel_rfl) (by first | exact ⟨g0, g1, g2, g3, g4⟩ | (dsimp only; exact ⟨g0, g1, g2, g3, g4⟩)) (fun hHeld => ?_)
              refine wpLate_take (i := 0) (v := ?_) rfl (by kernel_rfl) (fun _ _ _ h => h) (Or.inl ⟨by rfl, ?_⟩) hHeld ?_
              rotate_left
              · (intro w hSw; (try dsimp only at hSw); go_simp; try with_reducible rfl)
              simp only [Act.put, List.setIfInBounds_toArray, List.set_cons_zero, List.set_cons_succ]
              refine wpLate_take (i := 1) (v := ?_) rfl (by kernel_rfl) (fun _ _ _ h => h) (Or.inl ⟨by rfl, ?_⟩) hHeld ?_
              rotate_left
              · (intro w hSw; (try dsimp only at hSw); go_simp; try with_reducible rfl)
              simp only [Act.put, List.setIfInBounds_toArray, List.set_cons_zero, List.set_cons_succ]
              refine wpLate_step (i := 2) (by kernel_rfl) rfl (fun K hK => ?_)
              go_simp
              (go_at_call 42; refine (cR.out _).mono ?_; rintro x_ w4 ⟨rfl, b4⟩; replace hq2 := Lib.hid (by first | exact hq2.out.below' b4 | exact hq2.out.drew.below' b4); replace hR2 := Lib.hid (by first | exact hR2.out.below' b4 | exact hR2.out.drew.below' b4); replace hBl2 := Lib.hid (isBldBelow (W := w2.drew) hBl2.out b4); replace hb2 := Lib.hid (by first | exact hb2.out.trans (b4.mono hb2.out.size) | exact hb2.out.drew.trans (b4.mono hb2.out.size)); replace g0 := (by have := hq2.out.cell 0; simpa using this); replace g1 := (by have := hq2.out.cell 1; simpa using this); replace g2 := (by have := hq2.out.cell 2; simpa using this); replace g3 := (by have := hq2.out.cell 3; simpa using this); replace g4 := (by have := hq2.out.cell 4; simpa using this); clear b4)
              refine hK.out _ _ ?_ (fun hHeld => ?_)
              · first | exact ⟨g0, g1, g2, g3, g4⟩ | (dsimp only; exact ⟨g0, g1, g2, g3, g4⟩)
              clear hK K
              try simp only [Act.put, List.setIfInBounds_toArray, List.set_cons_zero, List.set_cons_succ]
              refine wpLate_take (i := 3) (v := ?_) rfl (by kernel_rfl) (fun _ _ _ h => h) (Or.inl ⟨by rfl, ?_⟩) hHeld ?_
              rotate_left
              · (intro w hSw; (try dsimp only at hSw); go_simp; try with_reducible rfl)
              simp only [Act.put, List.setIfInBounds_toArray, List.set_cons_zero, List.set_cons_succ]
              refine wpLate_take (i := 5) (v := ?_) rfl (by kernel_rfl) (fun _ _ _ h => h) (Or.inl ⟨by rfl, ?_⟩) hHeld ?_
              rotate_left
              · (intro w hSw; (try dsimp only at hSw); go_simp; try with_reducible rfl)
              simp only [Act.put, List.setIfInBounds_toArray, List.set_cons_zero, List.set_cons_succ]
              refine wpLate_take (i := 6) (v := ?_) rfl (by kernel_rfl) (fun _ _ _ h => h) (Or.inl ⟨by rfl, ?_⟩) hHeld ?_
              rotate_left
              · (intro w hSw; (try dsimp only at hSw); go_simp; try with_reducible rfl)
              simp only [Act.put, List.setIfInBounds_toArray, List.set_cons_zero, List.set_cons_succ]
              refine wpLate_step (i := 4) (by kernel_rfl) rfl (fun K hK => ?_)
              go_simp
              (go_at_call 46; refine (Tryd.Builder_String_any_k _ _ _ _ hBl2.out hb2.out.size).mono ?_; rintro x_ w5 ⟨rfl, hBl3, b5, o5⟩; replace hq2 := Lib.hid (hq2.out.oth o5 hnq (by decide)); replace hR2 := Lib.hid (hR2.out.oth o5 hnR (by decide)); replace hb2 := Lib.hid (hb2.out.trans b5); clear hBl3 b5 o5; replace g0 := (by have := hq2.out.cell 0; simpa using this); replace g1 := (by have := hq2.out.cell 1; simpa using this); replace g2 := (by have := hq2.out.cell 2; simpa using this); replace g3 := (by have := hq2.out.cell 3; simpa using this); replace g4 := (by have := hq2.out.cell 4; simpa using this))
              refine hK.out _ _ ?_ (fun hHeld => ?_)
              · first | exact ⟨g0, g1, g2, g3, g4⟩ | (dsimp only; exact ⟨g0, g1, g2, g3, g4⟩)
              clear hK K
              try simp only [Act.put, List.setIfInBounds_toArray, List.set_cons_zero, List.set_cons_succ]
              refine wpLate_take (i := 7) (v := ?_) rfl (by kernel_rfl) (fun _ _ _ h => h) (Or.inl ⟨by rfl, ?_⟩) hHeld ?_
              rotate_left
              · (intro w hSw; (try dsimp only at hSw); go_simp; try with_reducible rfl)
              simp only [Act.put, List.setIfInBounds_toArray, List.set_cons_zero, List.set_cons_succ]
              refine wpLate_take (i := 8) (v := ?_) rfl (by kernel_rfl) (fun _ _ _ h => h) (Or.inl ⟨by rfl, ?_⟩) hHeld ?_
              rotate_left
              · (intro w hSw; (try dsimp only at hSw); go_simp; try with_reducible rfl)
              simp only [Act.put, List.setIfInBounds_toArray, List.set_cons_zero, List.set_cons_succ]
              have q0 := hR2.out.cell 0; simp at q0; have f0 := hR2.out.frozen 0; have q1 := hR2.out.cell 1; simp at q1; have f1 := hR2.out.frozen 1; have q2 := hR2.out.cell 2; simp at q2; have f2 := hR2.out.frozen 2; have q3 := hR2.out.cell 3; simp at q3; have f3 := hR2.out.frozen 3; have q4 := hR2.out.cell 4; simp at q4; have f4 := hR2.out.frozen 4
              have hq3 := (((((hq2.out.other ⟨w.heap.size, 0, none⟩ (.int .u8 5) hne).other ⟨w.heap.size, 1, none⟩ (.string ⟨#[]⟩) hne).other ⟨w.heap.size, 2, none⟩ (.int .i64 0) hne).other ⟨w.heap.size, 3, none⟩ (.int .i64 0) hne).other ⟨w.heap.size, 4, none⟩ (.bool false) hne)
              have hR3 := (((((hR2.out.set 0 (.int .u8 5)).set 1 (.string ⟨#[]⟩)).set 2 (.int .i64 0)).set 3 (.int .i64 0)).set 4 (.bool false))
              have e0 := hq3.cell 0; simp at e0; have e1 := hq3.cell 1; simp at e1; have e2 := hq3.cell 2; simp at e2; have e3 := hq3.cell 3; simp at e3; have e4 := hq3.cell 4; simp at e4
              refine wpLate_step (i := 9) (by kernel_rfl) rfl (fun K hK => ?_)
              go_simp
              refine hK.out _ _ ?_ (fun hHeld => ?_)
              · first | exact ⟨e0, e1, e2, e3, e4⟩ | (dsimp only; exact ⟨e0, e1, e2, e3, e4⟩)
              clear hK K
              try simp only [Act.put, List.setIfInBounds_toArray, List.set_cons_zero, List.set_cons_succ]
              clear q0 q1 q2 q3 q4 f0 f1 f2 f3 f4 e0 e1 e2 e3 e4 hq3 g0 g1 g2 g3 g4
              have z0 := hR3.cell 0; simp at z0; have z1 := hR3.cell 1; simp at z1; have z2 := hR3.cell 2; simp at z2; have z3 := hR3.cell 3; simp at z3; have z4 := hR3.cell 4; simp at z4
              refine wpLate_last (by kernel_rfl) rfl (by kernel_rfl) (fun K hK => ?_)
              go_simp
              refine hK.out _ _ ?_
              clear hK K
              go_wp2_with fail
              (try simp only [Exit.inBlock, Exit.then])
              refine bodyPost_ret (v := .tuple #[.agg #[.int .u8 5, .string ⟨#[]⟩, .int .i64 0, .int .i64 0, .bool false], .bool (Ln ++ [10] == (a0 ++ (⟨#[10]⟩ : ByteArray)).toList)]) (by simp [results, Tryd.results49, go_sem, z0, z1, z2, z3, z4]) rfl ?_
              exact ⟨by rw [end_eq]; rfl, (by refine below_set ?_ (Nat.le_refl _); refine below_set ?_ (Nat.le_refl _); refine below_set ?_ (Nat.le_refl _); refine below_set ?_ (Nat.le_refl _); refine below_set ?_ (Nat.le_refl _); exact hb2.out)⟩

          · replace hp : Lib.hasPrefix a0.data.toList (⟨#[101, 109, 112, 116, 121]⟩ : ByteArray).data.toList = false := by simpa using hp
            rw [hp] at cP
            replace cP := Lib.hid cP
            go_wp2_with (go_at_call 76; refine cP.out.mono ?_; rintro e w' ⟨rfl, rfl⟩)
            go_roundw
            case rel => exact ⟨6, by go_num, by omega, Lib.hid (fun i h1 h2 => by rcases (by omega : i < 5 ∨ i = 5) with h3 | rfl; exact hno.out i h1 h3; exact hp), hbb, hR⟩
            case measure => simp [RowKit.intOf]
        · have hx : ∀ W, (Instr.index 112 (.agg A) (.int .i64 6)).run Tryd.prog W = .ok (.string (⟨#[98, 101, 103, 105, 110, 32]⟩ : ByteArray)) W := fun W => hI.out 6 (by omega) W
          have cP := Tryd.strings_HasPrefix a0 (⟨#[98, 101, 103, 105, 110, 32]⟩ : ByteArray) wr
          by_cases hp : Lib.hasPrefix a0.data.toList (⟨#[98, 101, 103, 105, 110, 32]⟩ : ByteArray).data.toList = true
          · rw [hp] at cP
            have hpl : (6 : Int) ≤ (a0.size : Int) := by
              have h7 := hasPrefix_len hp; have h8 := size_len a0; have h9 : (⟨#[98, 101, 103, 105, 110, 32]⟩ : ByteArray).data.toList.length = 6 := by decide
              omega
            have hrk : readK a0.data.toList = 6 := by
              unfold readK
              rw [if_neg (by rw [hno.out 1 (by omega) (by omega)]; simp)]
              rw [if_neg (by rw [hno.out 2 (by omega) (by omega)]; simp)]
              rw [if_neg (by rw [hno.out 3 (by omega) (by omega)]; simp)]
              rw [if_neg (by rw [hno.out 4 (by omega) (by omega)]; simp)]
              rw [if_neg (by rw [hno.out 5 (by omega) (by omega)]; simp)]
              rw [if_pos (show Lib.hasPrefix a0.data.toList (wordB 6) = true from hp)]
            have hE := h.out
            rw [hrk] at hE
            clear hno hI
            replace cP := Lib.hid cP; replace hp := Lib.hid hp; replace hrk := Lib.hid hrk; replace hE := Lib.hid hE; replace hpl := hpl
            have hzz := hbb.size
            have hlt9 := hR.out.lt
            have hq := Lib.hid (Blk.new wr #[.int .u8 6, .string ⟨#[]⟩, .int .i64 0, .int .i64 0, .bool false] TD)
            have hbq := Lib.hid (hbb.alloc hzz (.cells #[.int .u8 6, .string ⟨#[]⟩, .int .i64 0, .int .i64 0, .bool false] TD))
            have hRq := Lib.hid (hR.out.alloc (.cells #[.int .u8 6, .string ⟨#[]⟩, .int .i64 0, .int .i64 0, .bool false] TD))
            go_wp2_with (go_at_call 76; refine cP.out.mono ?_; rintro x_ w' ⟨rfl, h_⟩; obtain rfl : wr = w' := h_.symm)
            have hE := hE.out
            (try simp only at hE)
            obtain ⟨⟨rs, ev6⟩, hcs, hE⟩ := Option.bind_eq_some_iff.1 hE
            (try simp only at hE)
            replace hE := Lib.hid hE
            refine (strings_CutSuffix.calls _ _ rs ev6 _ hcs).mono ?_
            rintro x_ w0 ⟨rfl, m0, hw0⟩
            have b0 : Below (wr.alloc (.cells #[.int .u8 6, .string ⟨#[]⟩, .int .i64 0, .int .i64 0, .bool false] TD)).heap.size (wr.alloc (.cells #[.int .u8 6, .string ⟨#[]⟩, .int .i64 0, .int .i64 0, .bool false] TD)) w0 := by rw [hw0]; exact pw_below_drewN (Below.refl _ _) m0
            clear hw0
            have t1 := (hq.out.below' b0).frozen 4
            have s0 := (hq.out.below' b0).cell 0; simp at s0
            have s1 := (hq.out.below' b0).cell 1; simp at s1
            have s2 := (hq.out.below' b0).cell 2; simp at s2
            have s3 := (hq.out.below' b0).cell 3; simp at s3
            have s4 := (hq.out.below' b0).cell 4; simp at s4
            replace hRq : Hid (Blk (w0.setCell ⟨wr.heap.size, 4, none⟩ (.bool ev6)) w.heap.size #[.int .u8 0, .string ⟨#[]⟩, .int .i64 0, .int .i64 0, .bool false] TD) := Lib.hid ((hRq.out.below' b0).other _ _ (fun e => by have e : wr.heap.size = w.heap.size := e; omega))
            replace hq : Hid (Blk (w0.setCell ⟨wr.heap.size, 4, none⟩ (.bool ev6)) wr.heap.size #[.int .u8 6, .string ⟨#[]⟩, .int .i64 0, .int .i64 0, .bool ev6] TD) := Lib.hid ((hq.out.below' b0).set 4 (.bool ev6))
            replace hbq : Hid (Below w.heap.size w (w0.setCell ⟨wr.heap.size, 4, none⟩ (.bool ev6))) := Lib.hid (below_set (hbq.out.trans (b0.mono hbq.out.size)) hzz)
            clear b0
            have hrs := suffix_le hcs
            go_wp2_with fail
            clear s0 s1 s2 s3 s4 t1
            refine (atoi_c _ _ (by have := cut_le a0 6 a0.size; omega) (hT.below hbq.out)).mono ?_
            rintro x_ w1 ⟨⟨ev, rfl⟩, b1⟩
            obtain ⟨n, hn⟩ : ∃ n, atoiV rs.data.toList = n := ⟨_, rfl⟩
            have hnb := atoiV_bd rs.data.toList
            have hE := hE.out
            rw [hn] at hE hnb ⊢
            replace hE := Lib.hid hE; replace hn := Lib.hid hn
            have t1 := (hq.out.below' b1).frozen 3
            have s0 := (hq.out.below' b1).cell 0; simp at s0
            have s1 := (hq.out.below' b1).cell 1; simp at s1
            have s2 := (hq.out.below' b1).cell 2; simp at s2
            have s3 := (hq.out.below' b1).cell 3; simp at s3
            have s4 := (hq.out.below' b1).cell 4; simp at s4
            have hv : wr.heap.size < w1.heap.size := (hq.out.below' b1).lt
            replace hRq : Hid (Blk (w1.setCell ⟨wr.heap.size, 3, none⟩ (.int .i64 n)) w.heap.size #[.int .u8 0, .string ⟨#[]⟩, .int .i64 0, .int .i64 0, .bool false] TD) := Lib.hid ((hRq.out.below' b1).other _ _ (fun e => by have e : wr.heap.size = w.heap.size := e; omega))
            replace hq : Hid (Blk (w1.setCell ⟨wr.heap.size, 3, none⟩ (.int .i64 n)) wr.heap.size #[.int .u8 6, .string ⟨#[]⟩, .int .i64 0, .int .i64 n, .bool ev6] TD) := Lib.hid ((hq.out.below' b1).set 3 (.int .i64 n))
            replace hbq : Hid (Below w.heap.size w (w1.setCell ⟨wr.heap.size, 3, none⟩ (.int .i64 n))) := Lib.hid (below_set (hbq.out.trans (b1.mono hbq.out.size)) hzz)
            clear b1
            go_wp2_with fail
            have hzX := hbq.out.size
            have hzs : (w1.setCell ⟨wr.heap.size, 3, none⟩ (.int .i64 n)).heap.size = w1.heap.size := by simp
            have hbld : Lib.IsBuilderF TB TU w.heap.size (w1.heap.size) [] ((w1.setCell ⟨wr.heap.size, 3, none⟩ (.int .i64 n)).alloc (.cells #[.pointer none, .slice none 0 0] TB)) := by have := bldNew w.heap.size (w1.setCell ⟨wr.heap.size, 3, none⟩ (.int .i64 n)) hzX; rw [hzs] at this; exact this
            have hbX := Lib.hid (hbq.out.alloc hzX (.cells #[.pointer none, .slice none 0 0] TB))
            have hqX := Lib.hid (hq.out.alloc (.cells #[.pointer none, .slice none 0 0] TB))
            have hRX := Lib.hid (hRq.out.alloc (.cells #[.pointer none, .slice none 0 0] TB))
            have hqlt := hq.out.lt
            have hRlt := hRq.out.lt
            have cW : Calls Tryd.prog 45 #[.pointer (some ⟨w1.heap.size, 0, none⟩), .agg #[.int .u8 6, .string ⟨#[]⟩, .int .i64 0, .int .i64 n, .bool ev6]] ((w1.setCell ⟨wr.heap.size, 3, none⟩ (.int .i64 n)).alloc (.cells #[.pointer none, .slice none 0 0] TB)) fun x w' => x = .returned (.tuple #[]) ∧ Wr w.heap.size (w1.heap.size) ((w1.setCell ⟨wr.heap.size, 3, none⟩ (.int .i64 n)).alloc (.cells #[.pointer none, .slice none 0 0] TB)) [] (lineB 6 ⟨#[]⟩ 0 n ev6 ++ [10]) w' := doc_write (w1.heap.size) 6 [] ⟨#[]⟩ 0 n ev6 w _ (by omega) hbld (by decide) hbX.out hT (by omega) (by omega)
            clear hbld
            refine cW.mono ?_
            clear cW
            rintro x_ w2 ⟨rfl, hW⟩
            have hb2 := Lib.hid (hbX.out.trans hW.2.1)
            have hq2 := Lib.hid (hqX.out.oth hW.2.2 (by omega) (by decide))
            have hR2 := Lib.hid (hRX.out.oth hW.2.2 (by omega) (by decide))
            have hBl2 : Hid (Lib.IsBuilderF TB TU w.heap.size _ (Lib.byteCells (lineB 6 ⟨#[]⟩ 0 n ev6 ++ [10])) w2) := Lib.hid (.inr (by simpa using hW.1))
            clear hW hqX hRX hq hRq
            have s2 := hb2.out.size
            obtain ⟨Ln, hLn⟩ : ∃ Ln, lineB 6 ⟨#[]⟩ 0 n ev6 = Ln := ⟨_, rfl⟩
            obtain ⟨rb, hrb⟩ : ∃ rb, rightB ⟨6, ⟨#[]⟩, 0, n, ev6⟩ = rb := ⟨_, rfl⟩
            unfold readEnd at hE
            rw [hLn] at hBl2
            have hE := hE.out
            rw [if_pos (by decide), hLn, hrb] at hE
            have hE := Option.some.inj hE
            simp only [Prod.mk.injEq] at hE
            obtain ⟨rfl, rfl, rfl, rfl, rfl, rfl⟩ := hE
            have g0 := hq2.out.cell 0; have g1 := hq2.out.cell 1; have g2 := hq2.out.cell 2; have g3 := hq2.out.cell 3; have g4 := hq2.out.cell 4
            simp at g0 g1 g2 g3 g4
            have cR : ∀ W, Calls Tryd.prog 42 #[.agg #[.int .u8 6, .string ⟨#[]⟩, .int .i64 0, .int .i64 n, .bool ev6]] W fun e w' => e = .returned (.bool rb) ∧ Below W.heap.size W w' := fun W => by have := doc_right ⟨6, ⟨#[]⟩, 0, n, ev6⟩ W; rw [hrb] at this; exact this
            replace cR := Lib.hid cR; replace hLn := Lib.hid hLn; replace hrb := Lib.hid hrb
            have hnz : ¬ (9223372036854775807 < a0.size + 1) := by omega
            have hne : w.heap.size ≠ wr.heap.size := by omega
            have hnq : wr.heap.size ≠ w1.heap.size := by omega
            have hnR : w.heap.size ≠ w1.heap.size := by omega
            cases rb with
            | false =>
              go_wp2_with fail
              refine wp_region_late (fun W => W.cell? ⟨wr.heap.size, 0, none⟩ = some (.int .u8 6) ∧ W.cell? ⟨wr.heap.size, 1, none⟩ = some (.string ⟨#[]⟩) ∧ W.cell? ⟨wr.heap.size, 2, none⟩ = some (.int .i64 0) ∧ W.cell? ⟨wr.heap.size, 3, none⟩ = some (.int .i64 n) ∧ W.cell? ⟨wr.heap.size, 4, none⟩ = some (.bool ev6)) 10 (by kernel_rfl) (by first | exact ⟨g0, g1, g2, g3, g4⟩ | (dsimp only; exact ⟨g0, g1, g2, g3, g4⟩)) (fun hHeld => ?_)
              refine wpLate_take (i := 0) (v := ?_) rfl (by kernel_rfl) (fun _ _ _ h => h) (Or.inl ⟨by rfl, ?_⟩) hHeld ?_
              rotate_left
              · (intro w hSw; (try dsimp only at hSw); go_simp; try with_reducible rfl)
              simp only [Act.put, List.setIfInBounds_toArray, List.set_cons_zero, List.set_cons_succ]
              refine wpLate_take (i := 1) (v := ?_) rfl (by kernel_rfl) (fun _ _ _ h => h) (Or.inl ⟨by rfl, ?_⟩) hHeld ?_
              rotate_left
              · (intro w hSw; (try dsimp only at hSw); go_simp; try with_reducible rfl)
              simp only [Act.put, List.setIfInBounds_toArray, List.set_cons_zero, List.set_cons_succ]
              refine wpLate_step (i := 2) (by kernel_rfl) rfl (fun K hK => ?_)
              go_simp
              (go_at_call 42; refine (cR.out _).mono ?_; rintro x_ w4 ⟨rfl, b4⟩; replace hq2 := Lib.hid (by first | exact hq2.out.below' b4 | exact hq2.out.drew.below' b4); replace hR2 := Lib.hid (by first | exact hR2.out.below' b4 | exact hR2.out.drew.below' b4); replace hBl2 := Lib.hid (isBldBelow (W := w2.drew) hBl2.out b4); replace hb2 := Lib.hid (by first | exact hb2.out.trans (b4.mono hb2.out.size) | exact hb2.out.drew.trans (b4.mono hb2.out.size)); replace g0 := (by have := hq2.out.cell 0; simpa using this); replace g1 := (by have := hq2.out.cell 1; simpa using this); replace g2 := (by have := hq2.out.cell 2; simpa using this); replace g3 := (by have := hq2.out.cell 3; simpa using this); replace g4 := (by have := hq2.out.cell 4; simpa using this); clear b4)
              refine hK.out _ _ ?_ (fun hHeld => ?_)
              · first | exact ⟨g0, g1, g2, g3, g4⟩ | (dsimp only; exact ⟨g0, g1, g2, g3, g4⟩)
              clear hK K
              try simp only [Act.put, List.setIfInBounds_toArray, List.set_cons_zero, List.set_cons_succ]
              refine wpLate_take (i := 3) (v := ?_) rfl (by kernel_rfl) (fun _ _ _ h => h) (Or.inl ⟨by rfl, ?_⟩) hHeld ?_
              rotate_left
              · (intro w hSw; (try dsimp only at hSw); go_simp; try with_reducible rfl)
              simp only [Act.put, List.setIfInBounds_toArray, List.set_cons_zero, List.set_cons_succ]
              refine wpLate_take (i := 4) (v := undef) rfl (by kernel_rfl) (fun _ _ _ h => h) (Or.inr ⟨by rfl, rfl⟩) hHeld ?_
              simp only [Act.put, List.setIfInBounds_toArray, List.set_cons_zero, List.set_cons_succ]
              refine wpLate_take (i := 5) (v := undef) rfl (by kernel_rfl) (fun _ _ _ h => h) (Or.inr ⟨by rfl, rfl⟩) hHeld ?_
              simp only [Act.put, List.setIfInBounds_toArray, List.set_cons_zero, List.set_cons_succ]
              refine wpLate_take (i := 6) (v := undef) rfl (by kernel_rfl) (fun _ _ _ h => h) (Or.inr ⟨by rfl, rfl⟩) hHeld ?_
              simp only [Act.put, List.setIfInBounds_toArray, List.set_cons_zero, List.set_cons_succ]
              refine wpLate_take (i := 7) (v := undef) rfl (by kernel_rfl) (fun _ _ _ h => h) (Or.inr ⟨by rfl, rfl⟩) hHeld ?_
              simp only [Act.put, List.setIfInBounds_toArray, List.set_cons_zero, List.set_cons_succ]
              refine wpLate_take (i := 8) (v := ?_) rfl (by kernel_rfl) (fun _ _ _ h => h) (Or.inl ⟨by rfl, ?_⟩) hHeld ?_
              rotate_left
              · (intro w hSw; (try dsimp only at hSw); go_simp; try with_reducible rfl)
              simp only [Act.put, List.setIfInBounds_toArray, List.set_cons_zero, List.set_cons_succ]
              have q0 := hR2.out.cell 0; simp at q0; have f0 := hR2.out.frozen 0; have q1 := hR2.out.cell 1; simp at q1; have f1 := hR2.out.frozen 1; have q2 := hR2.out.cell 2; simp at q2; have f2 := hR2.out.frozen 2; have q3 := hR2.out.cell 3; simp at q3; have f3 := hR2.out.frozen 3; have q4 := hR2.out.cell 4; simp at q4; have f4 := hR2.out.frozen 4
              have hq3 := (((((hq2.out.other ⟨w.heap.size, 0, none⟩ (.int .u8 6) hne).other ⟨w.heap.size, 1, none⟩ (.string ⟨#[]⟩) hne).other ⟨w.heap.size, 2, none⟩ (.int .i64 0) hne).other ⟨w.heap.size, 3, none⟩ (.int .i64 n) hne).other ⟨w.heap.size, 4, none⟩ (.bool ev6) hne)
              have hR3 := (((((hR2.out.set 0 (.int .u8 6)).set 1 (.string ⟨#[]⟩)).set 2 (.int .i64 0)).set 3 (.int .i64 n)).set 4 (.bool ev6))
              have e0 := hq3.cell 0; simp at e0; have e1 := hq3.cell 1; simp at e1; have e2 := hq3.cell 2; simp at e2; have e3 := hq3.cell 3; simp at e3; have e4 := hq3.cell 4; simp at e4
              refine wpLate_step (i := 9) (by kernel_rfl) rfl (fun K hK => ?_)
              go_simp
              refine hK.out _ _ ?_ (fun hHeld => ?_)
              · first | exact ⟨e0, e1, e2, e3, e4⟩ | (dsimp only; exact ⟨e0, e1, e2, e3, e4⟩)
              clear hK K
              try simp only [Act.put, List.setIfInBounds_toArray, List.set_cons_zero, List.set_cons_succ]
              clear q0 q1 q2 q3 q4 f0 f1 f2 f3 f4 e0 e1 e2 e3 e4 hq3 g0 g1 g2 g3 g4
              have z0 := hR3.cell 0; simp at z0; have z1 := hR3.cell 1; simp at z1; have z2 := hR3.cell 2; simp at z2; have z3 := hR3.cell 3; simp at z3; have z4 := hR3.cell 4; simp at z4
              refine wpLate_last (by kernel_rfl) rfl (by kernel_rfl) (fun K hK => ?_)
              go_simp
              refine hK.out _ _ ?_
              clear hK K
              go_wp2_with fail
              (try simp only [Exit.inBlock, Exit.then])
              refine bodyPost_ret (v := .tuple #[.agg #[.int .u8 6, .string ⟨#[]⟩, .int .i64 0, .int .i64 n, .bool ev6], .bool false]) (by simp [results, Tryd.results49, go_sem, z0, z1, z2, z3, z4]) rfl ?_
              exact ⟨rfl, (by refine below_set ?_ (Nat.le_refl _); refine below_set ?_ (Nat.le_refl _); refine below_set ?_ (Nat.le_refl _); refine below_set ?_ (Nat.le_refl _); refine below_set ?_ (Nat.le_refl _); exact hb2.out)⟩
            | true =>
              go_wp2_with fail
              refine wp_region_late (fun W => W.cell? ⟨wr.heap.size, 0, none⟩ = some (.int .u8 6) ∧ W.cell? ⟨wr.heap.size, 1, none⟩ = some (.string ⟨#[]⟩) ∧ W.cell? ⟨wr.heap.size, 2, none⟩ = some (.int .i64 0) ∧ W.cell? ⟨wr.heap.size, 3, none⟩ = some (.int .i64 n) ∧ W.cell? ⟨wr.heap.size, 4, none⟩ = some (.bool ev6)) 10 (by kernel_rfl) (by first | exact ⟨g0, g1, g2, g3, g4⟩ | (dsimp only; exact ⟨g0, g1, g2, g3, g4⟩)) (fun hHeld => ?_)
              refine wpLate_take (i := 0) (v := ?_) rfl (by kernel_rfl) (fun _ _ _ h => h) (Or.inl ⟨by rfl, ?_⟩) hHeld ?_
              rotate_left
              · (intro w hSw; (try dsimp only at hSw); go_simp; try with_reducible rfl)
              simp only [Act.put, List.setIfInBounds_toArray, List.set_cons_zero, List.set_cons_succ]
              refine wpLate_take (i := 1) (v := ?_) rfl (by kernel_rfl) (fun _ _ _ h => h) (Or.inl ⟨by rfl, ?_⟩) hHeld ?_
              rotate_left
              · (intro w hSw; (try dsimp only at hSw); go_simp; try with_reducible rfl)
              simp only [Act.put, List.setIfInBounds_toArray, List.set_cons_zero, List.set_cons_succ]
              refine wpLate_step (i := 2) (by kernel_rfl) rfl (fun K hK => ?_)
              go_simp
              (go_at_call 42; refine (cR.out _).mono ?_; rintro x_ w4 ⟨rfl, b4⟩; replace hq2 := Lib.hid (by first | exact hq2.out.below' b4 | exact hq2.out.drew.below' b4); replace hR2 := Lib.hid (by first | exact hR2.out.below' b4 | exact hR2.out.drew.below' b4); replace hBl2 := Lib.hid (isBldBelow (W := w2.drew) hBl2.out b4); replace hb2 := Lib.hid (by first | exact hb2.out.trans (b4.mono hb2.out.size) | exact hb2.out.drew.trans (b4.mono hb2.out.size)); replace g0 := (by have := hq2.out.cell 0; simpa using this); replace g1 := (by have := hq2.out.cell 1; simpa using this); replace g2 := (by have := hq2.out.cell 2; simpa using this); replace g3 := (by have := hq2.out.cell 3; simpa using this); replace g4 := (by have := hq2.out.cell 4; simpa using this); clear b4)
              refine hK.out _ _ ?_ (fun hHeld => ?_)
              · first | exact ⟨g0, g1, g2, g3, g4⟩ | (dsimp only; exact ⟨g0, g1, g2, g3, g4⟩)
              clear hK K
              try simp only [Act.put, List.setIfInBounds_toArray, List.set_cons_zero, List.set_cons_succ]
              refine wpLate_take (i := 3) (v := ?_) rfl (by kernel_rfl) (fun _ _ _ h => h) (Or.inl ⟨by rfl, ?_⟩) hHeld ?_
              rotate_left
              · (intro w hSw; (try dsimp only at hSw); go_simp; try with_reducible rfl)
              simp only [Act.put, List.setIfInBounds_toArray, List.set_cons_zero, List.set_cons_succ]
              refine wpLate_take (i := 5) (v := ?_) rfl (by kernel_rfl) (fun _ _ _ h => h) (Or.inl ⟨by rfl, ?_⟩) hHeld ?_
              rotate_left
              · (intro w hSw; (try dsimp only at hSw); go_simp; try with_reducible rfl)
              simp only [Act.put, List.setIfInBounds_toArray, List.set_cons_zero, List.set_cons_succ]
              refine wpLate_take (i := 6) (v := ?_) rfl (by kernel_rfl) (fun _ _ _ h => h) (Or.inl ⟨by rfl, ?_⟩) hHeld ?_
              rotate_left
              · (intro w hSw; (try dsimp only at hSw); go_simp; try with_reducible rfl)
              simp only [Act.put, List.setIfInBounds_toArray, List.set_cons_zero, List.set_cons_succ]
              refine wpLate_step (i := 4) (by kernel_rfl) rfl (fun K hK => ?_)
              go_simp
              (go_at_call 46; refine (Tryd.Builder_String_any_k _ _ _ _ hBl2.out hb2.out.size).mono ?_; rintro x_ w5 ⟨rfl, hBl3, b5, o5⟩; replace hq2 := Lib.hid (hq2.out.oth o5 hnq (by decide)); replace hR2 := Lib.hid (hR2.out.oth o5 hnR (by decide)); replace hb2 := Lib.hid (hb2.out.trans b5); clear hBl3 b5 o5; replace g0 := (by have := hq2.out.cell 0; simpa using this); replace g1 := (by have := hq2.out.cell 1; simpa using this); replace g2 := (by have := hq2.out.cell 2; simpa using this); replace g3 := (by have := hq2.out.cell 3; simpa using this); replace g4 := (by have := hq2.out.cell 4; simpa using this))
              refine hK.out _ _ ?_ (fun hHeld => ?_)
              · first | exact ⟨g0, g1, g2, g3, g4⟩ | (dsimp only; exact ⟨g0, g1, g2, g3, g4⟩)
              clear hK K
              try simp only [Act.put, List.setIfInBounds_toArray, List.set_cons_zero, List.set_cons_succ]
              refine wpLate_take (i := 7) (v := ?_) rfl (by kernel_rfl) (fun _ _ _ h => h) (Or.inl ⟨by rfl, ?_⟩) hHeld ?_
              rotate_left
              · (intro w hSw; (try dsimp only at hSw); go_simp; try with_reducible rfl)
              simp only [Act.put, List.setIfInBounds_toArray, List.set_cons_zero, List.set_cons_succ]
              refine wpLate_take (i := 8) (v := ?_) rfl (by kernel_rfl) (fun _ _ _ h => h) (Or.inl ⟨by rfl, ?_⟩) hHeld ?_
              rotate_left
              · (intro w hSw; (try dsimp only at hSw); go_simp; try with_reducible rfl)
              simp only [Act.put, List.setIfInBounds_toArray, List.set_cons_zero, List.set_cons_succ]
              have q0 := hR2.out.cell 0; simp at q0; have f0 := hR2.out.frozen 0; have q1 := hR2.out.cell 1; simp at q1; have f1 := hR2.out.frozen 1; have q2 := hR2.out.cell 2; simp at q2; have f2 := hR2.out.frozen 2; have q3 := hR2.out.cell 3; simp at q3; have f3 := hR2.out.frozen 3; have q4 := hR2.out.cell 4; simp at q4; have f4 := hR2.out.frozen 4
              have hq3 := (((((hq2.out.other ⟨w.heap.size, 0, none⟩ (.int .u8 6) hne).other ⟨w.heap.size, 1, none⟩ (.string ⟨#[]⟩) hne).other ⟨w.heap.size, 2, none⟩ (.int .i64 0) hne).other ⟨w.heap.size, 3, none⟩ (.int .i64 n) hne).other ⟨w.heap.size, 4, none⟩ (.bool ev6) hne)
              have hR3 := (((((hR2.out.set 0 (.int .u8 6)).set 1 (.string ⟨#[]⟩)).set 2 (.int .i64 0)).set 3 (.int .i64 n)).set 4 (.bool ev6))
              have e0 := hq3.cell 0; simp at e0; have e1 := hq3.cell 1; simp at e1; have e2 := hq3.cell 2; simp at e2; have e3 := hq3.cell 3; simp at e3; have e4 := hq3.cell 4; simp at e4
              refine wpLate_step (i := 9) (by kernel_rfl) rfl (fun K hK => ?_)
              go_simp
              refine hK.out _ _ ?_ (fun hHeld => ?_)
              · first | exact ⟨e0, e1, e2, e3, e4⟩ | (dsimp only; exact ⟨e0, e1, e2, e3, e4⟩)
              clear hK K
              try simp only [Act.put, List.setIfInBounds_toArray, List.set_cons_zero, List.set_cons_succ]
              clear q0 q1 q2 q3 q4 f0 f1 f2 f3 f4 e0 e1 e2 e3 e4 hq3 g0 g1 g2 g3 g4
              have z0 := hR3.cell 0; simp at z0; have z1 := hR3.cell 1; simp at z1; have z2 := hR3.cell 2; simp at z2; have z3 := hR3.cell 3; simp at z3; have z4 := hR3.cell 4; simp at z4
              refine wpLate_last (by kernel_rfl) rfl (by kernel_rfl) (fun K hK => ?_)
              go_simp
              refine hK.out _ _ ?_
              clear hK K
              go_wp2_with fail
              (try simp only [Exit.inBlock, Exit.then])
              refine bodyPost_ret (v := .tuple #[.agg #[.int .u8 6, .string ⟨#[]⟩, .int .i64 0, .int .i64 n, .bool ev6], .bool (Ln ++ [10] == (a0 ++ (⟨#[10]⟩ : ByteArray)).toList)]) (by simp [results, Tryd.results49, go_sem, z0, z1, z2, z3, z4]) rfl ?_
              exact ⟨by rw [end_eq]; rfl, (by refine below_set ?_ (Nat.le_refl _); refine below_set ?_ (Nat.le_refl _); refine below_set ?_ (Nat.le_refl _); refine below_set ?_ (Nat.le_refl _); refine below_set ?_ (Nat.le_refl _); exact hb2.out)⟩

          · replace hp : Lib.hasPrefix a0.data.toList (⟨#[98, 101, 103, 105, 110, 32]⟩ : ByteArray).data.toList = false := by simpa using hp
            rw [hp] at cP
            replace cP := Lib.hid cP
            go_wp2_with (go_at_call 76; refine cP.out.mono ?_; rintro e w' ⟨rfl, rfl⟩)
            go_roundw
            case rel => exact ⟨7, by go_num, by omega, Lib.hid (fun i h1 h2 => by rcases (by omega : i < 6 ∨ i = 6) with h3 | rfl; exact hno.out i h1 h3; exact hp), hbb, hR⟩
            case measure => simp [RowKit.intOf]
        · have hx : ∀ W, (Instr.index 112 (.agg A) (.int .i64 7)).run Tryd.prog W = .ok (.string (⟨#[101, 110, 100]⟩ : ByteArray)) W := fun W => hI.out 7 (by omega) W
          have cP := Tryd.strings_HasPrefix a0 (⟨#[101, 110, 100]⟩ : ByteArray) wr
          by_cases hp : Lib.hasPrefix a0.data.toList (⟨#[101, 110, 100]⟩ : ByteArray).data.toList = true
          · rw [hp] at cP
            have hpl : (3 : Int) ≤ (a0.size : Int) := by
              have h7 := hasPrefix_len hp; have h8 := size_len a0; have h9 : (⟨#[101, 110, 100]⟩ : ByteArray).data.toList.length = 3 := by decide
              omega
            have hrk : readK a0.data.toList = 7 := by
              unfold readK
              rw [if_neg (by rw [hno.out 1 (by omega) (by omega)]; simp)]
              rw [if_neg (by rw [hno.out 2 (by omega) (by omega)]; simp)]
              rw [if_neg (by rw [hno.out 3 (by omega) (by omega)]; simp)]
              rw [if_neg (by rw [hno.out 4 (by omega) (by omega)]; simp)]
              rw [if_neg (by rw [hno.out 5 (by omega) (by omega)]; simp)]
              rw [if_neg (by rw [hno.out 6 (by omega) (by omega)]; simp)]
              rw [if_pos (show Lib.hasPrefix a0.data.toList (wordB 7) = true from hp)]
            have hE := h.out
            rw [hrk] at hE
            clear hno hI
            replace cP := Lib.hid cP; replace hp := Lib.hid hp; replace hrk := Lib.hid hrk; replace hE := Lib.hid hE; replace hpl := hpl
            have hzz := hbb.size
            have hlt9 := hR.out.lt
            have hq := Lib.hid (Blk.new wr #[.int .u8 7, .string ⟨#[]⟩, .int .i64 0, .int .i64 0, .bool false] TD)
            have hbq := Lib.hid (hbb.alloc hzz (.cells #[.int .u8 7, .string ⟨#[]⟩, .int .i64 0, .int .i64 0, .bool false] TD))
            have hRq := Lib.hid (hR.out.alloc (.cells #[.int .u8 7, .string ⟨#[]⟩, .int .i64 0, .int .i64 0, .bool false] TD))
            go_wp2_with (go_at_call 76; refine cP.out.mono ?_; rintro x_ w' ⟨rfl, h_⟩; obtain rfl : wr = w' := h_.symm)
            have hzX := hbq.out.size
            have hzs : (wr.alloc (.cells #[.int .u8 7, .string ⟨#[]⟩, .int .i64 0, .int .i64 0, .bool false] TD)).heap.size = wr.heap.size + 1 := by simp
            have hbld : Lib.IsBuilderF TB TU w.heap.size (wr.heap.size + 1) [] ((wr.alloc (.cells #[.int .u8 7, .string ⟨#[]⟩, .int .i64 0, .int .i64 0, .bool false] TD)).alloc (.cells #[.pointer none, .slice none 0 0] TB)) := by have := bldNew w.heap.size (wr.alloc (.cells #[.int .u8 7, .string ⟨#[]⟩, .int .i64 0, .int .i64 0, .bool false] TD)) hzX; rw [hzs] at this; exact this
            have hbX := Lib.hid (hbq.out.alloc hzX (.cells #[.pointer none, .slice none 0 0] TB))
            have hqX := Lib.hid (hq.out.alloc (.cells #[.pointer none, .slice none 0 0] TB))
            have hRX := Lib.hid (hRq.out.alloc (.cells #[.pointer none, .slice none 0 0] TB))
            have hqlt := hq.out.lt
            have hRlt := hRq.out.lt
            have cW : Calls Tryd.prog 45 #[.pointer (some ⟨wr.heap.size + 1, 0, none⟩), .agg #[.int .u8 7, .string ⟨#[]⟩, .int .i64 0, .int .i64 0, .bool false]] ((wr.alloc (.cells #[.int .u8 7, .string ⟨#[]⟩, .int .i64 0, .int .i64 0, .bool false] TD)).alloc (.cells #[.pointer none, .slice none 0 0] TB)) fun x w' => x = .returned (.tuple #[]) ∧ Wr w.heap.size (wr.heap.size + 1) ((wr.alloc (.cells #[.int .u8 7, .string ⟨#[]⟩, .int .i64 0, .int .i64 0, .bool false] TD)).alloc (.cells #[.pointer none, .slice none 0 0] TB)) [] (lineB 7 ⟨#[]⟩ 0 0 false ++ [10]) w' := doc_write (wr.heap.size + 1) 7 [] ⟨#[]⟩ 0 0 false w _ (by omega) hbld (by decide) hbX.out hT (by omega) (by omega)
            clear hbld
            refine cW.mono ?_
            clear cW
            rintro x_ w2 ⟨rfl, hW⟩
            have hb2 := Lib.hid (hbX.out.trans hW.2.1)
            have hq2 := Lib.hid (hqX.out.oth hW.2.2 (by omega) (by decide))
            have hR2 := Lib.hid (hRX.out.oth hW.2.2 (by omega) (by decide))
            have hBl2 : Hid (Lib.IsBuilderF TB TU w.heap.size _ (Lib.byteCells (lineB 7 ⟨#[]⟩ 0 0 false ++ [10])) w2) := Lib.hid (.inr (by simpa using hW.1))
            clear hW hqX hRX hq hRq
            have s2 := hb2.out.size
            obtain ⟨Ln, hLn⟩ : ∃ Ln, lineB 7 ⟨#[]⟩ 0 0 false = Ln := ⟨_, rfl⟩
            obtain ⟨rb, hrb⟩ : ∃ rb, rightB ⟨7, ⟨#[]⟩, 0, 0, false⟩ = rb := ⟨_, rfl⟩
            unfold readEnd at hE
            rw [hLn] at hBl2
            have hE := hE.out
            rw [if_pos (by decide), hLn, hrb] at hE
            have hE := Option.some.inj hE
            simp only [Prod.mk.injEq] at hE
            obtain ⟨rfl, rfl, rfl, rfl, rfl, rfl⟩ := hE
            have g0 := hq2.out.cell 0; have g1 := hq2.out.cell 1; have g2 := hq2.out.cell 2; have g3 := hq2.out.cell 3; have g4 := hq2.out.cell 4
            simp at g0 g1 g2 g3 g4
            have cR : ∀ W, Calls Tryd.prog 42 #[.agg #[.int .u8 7, .string ⟨#[]⟩, .int .i64 0, .int .i64 0, .bool false]] W fun e w' => e = .returned (.bool rb) ∧ Below W.heap.size W w' := fun W => by have := doc_right ⟨7, ⟨#[]⟩, 0, 0, false⟩ W; rw [hrb] at this; exact this
            replace cR := Lib.hid cR; replace hLn := Lib.hid hLn; replace hrb := Lib.hid hrb
            have hnz : ¬ (9223372036854775807 < a0.size + 1) := by omega
            have hne : w.heap.size ≠ wr.heap.size := by omega
            have hnq : wr.heap.size ≠ wr.heap.size + 1 := by omega
            have hnR : w.heap.size ≠ wr.heap.size + 1 := by omega
            cases rb with
            | false =>
              go_wp2_with fail
              refine wp_region_late (fun W => W.cell? ⟨wr.heap.size, 0, none⟩ = some (.int .u8 7) ∧ W.cell? ⟨wr.heap.size, 1, none⟩ = some (.string ⟨#[]⟩) ∧ W.cell? ⟨wr.heap.size, 2, none⟩ = some (.int .i64 0) ∧ W.cell? ⟨wr.heap.size, 3, none⟩ = some (.int .i64 0) ∧ W.cell? ⟨wr.heap.size, 4, none⟩ = some (.bool false)) 10 (by kernel_rfl) (by first | exact ⟨g0, g1, g2, g3, g4⟩ | (dsimp only; exact ⟨g0, g1, g2, g3, g4⟩)) (fun hHeld => ?_)
              refine wpLate_take (i := 0) (v := ?_) rfl (by kernel_rfl) (fun _ _ _ h => h) (Or.inl ⟨by rfl, ?_⟩) hHeld ?_
              rotate_left
              · (intro w hSw; (try dsimp only at hSw); go_simp; try with_reducible rfl)
              simp only [Act.put, List.setIfInBounds_toArray, List.set_cons_zero, List.set_cons_succ]
              refine wpLate_take (i := 1) (v := ?_) rfl (by kernel_rfl) (fun _ _ _ h => h) (Or.inl ⟨by rfl, ?_⟩) hHeld ?_
              rotate_left
              · (intro w hSw; (try dsimp only at hSw); go_simp; try with_reducible rfl)
              simp only [Act.put, List.setIfInBounds_toArray, List.set_cons_zero, List.set_cons_succ]
              refine wpLate_step (i := 2) (by kernel_rfl) rfl (fun K hK => ?_)
              go_simp
              (go_at_call 42; refine (cR.out _).mono ?_; rintro x_ w4 ⟨rfl, b4⟩; replace hq2 := Lib.hid (by first | exact hq2.out.below' b4 | exact hq2.out.drew.below' b4); replace hR2 := Lib.hid (by first | exact hR2.out.below' b4 | exact hR2.out.drew.below' b4); replace hBl2 := Lib.hid (isBldBelow (W := w2.drew) hBl2.out b4); replace hb2 := Lib.hid (by first | exact hb2.out.trans (b4.mono hb2.out.size) | exact hb2.out.drew.trans (b4.mono hb2.out.size)); replace g0 := (by have := hq2.out.cell 0; simpa using this); replace g1 := (by have := hq2.out.cell 1; simpa using this); replace g2 := (by have := hq2.out.cell 2; simpa using this); replace g3 := (by have := hq2.out.cell 3; simpa using this); replace g4 := (by have := hq2.out.cell 4; simpa using this); clear b4)
              refine hK.out _ _ ?_ (fun hHeld => ?_)
              · first | exact ⟨g0, g1, g2, g3, g4⟩ | (dsimp only; exact ⟨g0, g1, g2, g3, g4⟩)
              clear hK K
              try simp only [Act.put, List.setIfInBounds_toArray, List.set_cons_zero, List.set_cons_succ]
              refine wpLate_take (i := 3) (v := ?_) rfl (by kernel_rfl) (fun _ _ _ h => h) (Or.inl ⟨by rfl, ?_⟩) hHeld ?_
              rotate_left
              · (intro w hSw; (try dsimp only at hSw); go_simp; try with_reducible rfl)
              simp only [Act.put, List.setIfInBounds_toArray, List.set_cons_zero, List.set_cons_succ]
              refine wpLate_take (i := 4) (v := undef) rfl (by kernel_rfl) (fun _ _ _ h => h) (Or.inr ⟨by rfl, rfl⟩) hHeld ?_
              simp only [Act.put, List.setIfInBounds_toArray, List.set_cons_zero, List.set_cons_succ]
              refine wpLate_take (i := 5) (v := undef) rfl (by kernel_rfl) (fun _ _ _ h => h) (Or.inr ⟨by rfl, rfl⟩) hHeld ?_
              simp only [Act.put, List.setIfInBounds_toArray, List.set_cons_zero, List.set_cons_succ]
              refine wpLate_take (i := 6) (v := undef) rfl (by kernel_rfl) (fun _ _ _ h => h) (Or.inr ⟨by rfl, rfl⟩) hHeld ?_
              simp only [Act.put, List.setIfInBounds_toArray, List.set_cons_zero, List.set_cons_succ]
              refine wpLate_take (i := 7) (v := undef) rfl (by kernel_rfl) (fun _ _ _ h => h) (Or.inr ⟨by rfl, rfl⟩) hHeld ?_
              simp only [Act.put, List.setIfInBounds_toArray, List.set_cons_zero, List.set_cons_succ]
              refine wpLate_take (i := 8) (v := ?_) rfl (by kernel_rfl) (fun _ _ _ h => h) (Or.inl ⟨by rfl, ?_⟩) hHeld ?_
              rotate_left
              · (intro w hSw; (try dsimp only at hSw); go_simp; try with_reducible rfl)
              simp only [Act.put, List.setIfInBounds_toArray, List.set_cons_zero, List.set_cons_succ]
              have q0 := hR2.out.cell 0; simp at q0; have f0 := hR2.out.frozen 0; have q1 := hR2.out.cell 1; simp at q1; have f1 := hR2.out.frozen 1; have q2 := hR2.out.cell 2; simp at q2; have f2 := hR2.out.frozen 2; have q3 := hR2.out.cell 3; simp at q3; have f3 := hR2.out.frozen 3; have q4 := hR2.out.cell 4; simp at q4; have f4 := hR2.out.frozen 4
              have hq3 := (((((hq2.out.other ⟨w.heap.size, 0, none⟩ (.int .u8 7) hne).other ⟨w.heap.size, 1, none⟩ (.string ⟨#[]⟩) hne).other ⟨w.heap.size, 2, none⟩ (.int .i64 0) hne).other ⟨w.heap.size, 3, none⟩ (.int .i64 0) hne).other ⟨w.heap.size, 4, none⟩ (.bool false) hne)
              have hR3 := (((((hR2.out.set 0 (.int .u8 7)).set 1 (.string ⟨#[]⟩)).set 2 (.int .i64 0)).set 3 (.int .i64 0)).set 4 (.bool false))
              have e0 := hq3.cell 0; simp at e0; have e1 := hq3.cell 1; simp at e1; have e2 := hq3.cell 2; simp at e2; have e3 := hq3.cell 3; simp at e3; have e4 := hq3.cell 4; simp at e4
              refine wpLate_step (i := 9) (by kernel_rfl) rfl (fun K hK => ?_)
              go_simp
              refine hK.out _ _ ?_ (fun hHeld => ?_)
              · first | exact ⟨e0, e1, e2, e3, e4⟩ | (dsimp only; exact ⟨e0, e1, e2, e3, e4⟩)
              clear hK K
              try simp only [Act.put, List.setIfInBounds_toArray, List.set_cons_zero, List.set_cons_succ]
              clear q0 q1 q2 q3 q4 f0 f1 f2 f3 f4 e0 e1 e2 e3 e4 hq3 g0 g1 g2 g3 g4
              have z0 := hR3.cell 0; simp at z0; have z1 := hR3.cell 1; simp at z1; have z2 := hR3.cell 2; simp at z2; have z3 := hR3.cell 3; simp at z3; have z4 := hR3.cell 4; simp at z4
              refine wpLate_last (by kernel_rfl) rfl (by kernel_rfl) (fun K hK => ?_)
              go_simp
              refine hK.out _ _ ?_
              clear hK K
              go_wp2_with fail
              (try simp only [Exit.inBlock, Exit.then])
              refine bodyPost_ret (v := .tuple #[.agg #[.int .u8 7, .string ⟨#[]⟩, .int .i64 0, .int .i64 0, .bool false], .bool false]) (by simp [results, Tryd.results49, go_sem, z0, z1, z2, z3, z4]) rfl ?_
              exact ⟨rfl, (by refine below_set ?_ (Nat.le_refl _); refine below_set ?_ (Nat.le_refl _); refine below_set ?_ (Nat.le_refl _); refine below_set ?_ (Nat.le_refl _); refine below_set ?_ (Nat.le_refl _); exact hb2.out)⟩
            | true =>
              go_wp2_with fail
              refine wp_region_late (fun W => W.cell? ⟨wr.heap.size, 0, none⟩ = some (.int .u8 7) ∧ W.cell? ⟨wr.heap.size, 1, none⟩ = some (.string ⟨#[]⟩) ∧ W.cell? ⟨wr.heap.size, 2, none⟩ = some (.int .i64 0) ∧ W.cell? ⟨wr.heap.size, 3, none⟩ = some (.int .i64 0) ∧ W.cell? ⟨wr.heap.size, 4, none⟩ = some (.bool false)) 10 (by kernel_rfl) (by first | exact ⟨g0, g1, g2, g3, g4⟩ | (dsimp only; exact ⟨g0, g1, g2, g3, g4⟩)) (fun hHeld => ?_)
              refine wpLate_take (i := 0) (v := ?_) rfl (by kernel_rfl) (fun _ _ _ h => h) (Or.inl ⟨by rfl, ?_⟩) hHeld ?_
              rotate_left
              · (intro w hSw; (try dsimp only at hSw); go_simp; try with_reducible rfl)
              simp only [Act.put, List.setIfInBounds_toArray, List.set_cons_zero, List.set_cons_succ]
              refine wpLate_take (i := 1) (v := ?_) rfl (by kernel_rfl) (fun _ _ _ h => h) (Or.inl ⟨by rfl, ?_⟩) hHeld ?_
              rotate_left
              · (intro w hSw; (try dsimp only at hSw); go_simp; try with_reducible rfl)
              simp only [Act.put, List.setIfInBounds_toArray, List.set_cons_zero, List.set_cons_succ]
              refine wpLate_step (i := 2) (by kernel_rfl) rfl (fun K hK => ?_)
              go_simp
              (go_at_call 42; refine (cR.out _).mono ?_; rintro x_ w4 ⟨rfl, b4⟩; replace hq2 := Lib.hid (by first | exact hq2.out.below' b4 | exact hq2.out.drew.below' b4); replace hR2 := Lib.hid (by first | exact hR2.out.below' b4 | exact hR2.out.drew.below' b4); replace hBl2 := Lib.hid (isBldBelow (W := w2.drew) hBl2.out b4); replace hb2 := Lib.hid (by first | exact hb2.out.trans (b4.mono hb2.out.size) | exact hb2.out.drew.trans (b4.mono hb2.out.size)); replace g0 := (by have := hq2.out.cell 0; simpa using this); replace g1 := (by have := hq2.out.cell 1; simpa using this); replace g2 := (by have := hq2.out.cell 2; simpa using this); replace g3 := (by have := hq2.out.cell 3; simpa using this); replace g4 := (by have := hq2.out.cell 4; simpa using this); clear b4)
              refine hK.out _ _ ?_ (fun hHeld => ?_)
              · first | exact ⟨g0, g1, g2, g3, g4⟩ | (dsimp only; exact ⟨g0, g1, g2, g3, g4⟩)
              clear hK K
              try simp only [Act.put, List.setIfInBounds_toArray, List.set_cons_zero, List.set_cons_succ]
              refine wpLate_take (i := 3) (v := ?_) rfl (by kernel_rfl) (fun _ _ _ h => h) (Or.inl ⟨by rfl, ?_⟩) hHeld ?_
              rotate_left
              · (intro w hSw; (try dsimp only at hSw); go_simp; try with_reducible rfl)
              simp only [Act.put, List.setIfInBounds_toArray, List.set_cons_zero, List.set_cons_succ]
              refine wpLate_take (i := 5) (v := ?_) rfl (by kernel_rfl) (fun _ _ _ h => h) (Or.inl ⟨by rfl, ?_⟩) hHeld ?_
              rotate_left
              · (intro w hSw; (try dsimp only at hSw); go_simp; try with_reducible rfl)
              simp only [Act.put, List.setIfInBounds_toArray, List.set_cons_zero, List.set_cons_succ]
              refine wpLate_take (i := 6) (v := ?_) rfl (by kernel_rfl) (fun _ _ _ h => h) (Or.inl ⟨by rfl, ?_⟩) hHeld ?_
              rotate_left
              · (intro w hSw; (try dsimp only at hSw); go_simp; try with_reducible rfl)
              simp only [Act.put, List.setIfInBounds_toArray, List.set_cons_zero, List.set_cons_succ]
              refine wpLate_step (i := 4) (by kernel_rfl) rfl (fun K hK => ?_)
              go_simp
              (go_at_call 46; refine (Tryd.Builder_String_any_k _ _ _ _ hBl2.out hb2.out.size).mono ?_; rintro x_ w5 ⟨rfl, hBl3, b5, o5⟩; replace hq2 := Lib.hid (hq2.out.oth o5 hnq (by decide)); replace hR2 := Lib.hid (hR2.out.oth o5 hnR (by decide)); replace hb2 := Lib.hid (hb2.out.trans b5); clear hBl3 b5 o5; replace g0 := (by have := hq2.out.cell 0; simpa using this); replace g1 := (by have := hq2.out.cell 1; simpa using this); replace g2 := (by have := hq2.out.cell 2; simpa using this); replace g3 := (by have := hq2.out.cell 3; simpa using this); replace g4 := (by have := hq2.out.cell 4; simpa using this))
              refine hK.out _ _ ?_ (fun hHeld => ?_)
              · first | exact ⟨g0, g1, g2, g3, g4⟩ | (dsimp only; exact ⟨g0, g1, g2, g3, g4⟩)
              clear hK K
              try simp only [Act.put, List.setIfInBounds_toArray, List.set_cons_zero, List.set_cons_succ]
              refine wpLate_take (i := 7) (v := ?_) rfl (by kernel_rfl) (fun _ _ _ h => h) (Or.inl ⟨by rfl, ?_⟩) hHeld ?_
              rotate_left
              · (intro w hSw; (try dsimp only at hSw); go_simp; try with_reducible rfl)
              simp only [Act.put, List.setIfInBounds_toArray, List.set_cons_zero, List.set_cons_succ]
              refine wpLate_take (i := 8) (v := ?_) rfl (by kernel_rfl) (fun _ _ _ h => h) (Or.inl ⟨by rfl, ?_⟩) hHeld ?_
              rotate_left
              · (intro w hSw; (try dsimp only at hSw); go_simp; try with_reducible rfl)
              simp only [Act.put, List.setIfInBounds_toArray, List.set_cons_zero, List.set_cons_succ]
              have q0 := hR2.out.cell 0; simp at q0; have f0 := hR2.out.frozen 0; have q1 := hR2.out.cell 1; simp at q1; have f1 := hR2.out.frozen 1; have q2 := hR2.out.cell 2; simp at q2; have f2 := hR2.out.frozen 2; have q3 := hR2.out.cell 3; simp at q3; have f3 := hR2.out.frozen 3; have q4 := hR2.out.cell 4; simp at q4; have f4 := hR2.out.frozen 4
              have hq3 := (((((hq2.out.other ⟨w.heap.size, 0, none⟩ (.int .u8 7) hne).other ⟨w.heap.size, 1, none⟩ (.string ⟨#[]⟩) hne).other ⟨w.heap.size, 2, none⟩ (.int .i64 0) hne).other ⟨w.heap.size, 3, none⟩ (.int .i64 0) hne).other ⟨w.heap.size, 4, none⟩ (.bool false) hne)
              have hR3 := (((((hR2.out.set 0 (.int .u8 7)).set 1 (.string ⟨#[]⟩)).set 2 (.int .i64 0)).set 3 (.int .i64 0)).set 4 (.bool false))
              have e0 := hq3.cell 0; simp at e0; have e1 := hq3.cell 1; simp at e1; have e2 := hq3.cell 2; simp at e2; have e3 := hq3.cell 3; simp at e3; have e4 := hq3.cell 4; simp at e4
              refine wpLate_step (i := 9) (by kernel_rfl) rfl (fun K hK => ?_)
              go_simp
              refine hK.out _ _ ?_ (fun hHeld => ?_)
              · first | exact ⟨e0, e1, e2, e3, e4⟩ | (dsimp only; exact ⟨e0, e1, e2, e3, e4⟩)
              clear hK K
              try simp only [Act.put, List.setIfInBounds_toArray, List.set_cons_zero, List.set_cons_succ]
              clear q0 q1 q2 q3 q4 f0 f1 f2 f3 f4 e0 e1 e2 e3 e4 hq3 g0 g1 g2 g3 g4
              have z0 := hR3.cell 0; simp at z0; have z1 := hR3.cell 1; simp at z1; have z2 := hR3.cell 2; simp at z2; have z3 := hR3.cell 3; simp at z3; have z4 := hR3.cell 4; simp at z4
              refine wpLate_last (by kernel_rfl) rfl (by kernel_rfl) (fun K hK => ?_)
              go_simp
              refine hK.out _ _ ?_
              clear hK K
              go_wp2_with fail
              (try simp only [Exit.inBlock, Exit.then])
              refine bodyPost_ret (v := .tuple #[.agg #[.int .u8 7, .string ⟨#[]⟩, .int .i64 0, .int .i64 0, .bool false], .bool (Ln ++ [10] == (a0 ++ (⟨#[10]⟩ : ByteArray)).toList)]) (by simp [results, Tryd.results49, go_sem, z0, z1, z2, z3, z4]) rfl ?_
              exact ⟨by rw [end_eq]; rfl, (by refine below_set ?_ (Nat.le_refl _); refine below_set ?_ (Nat.le_refl _); refine below_set ?_ (Nat.le_refl _); refine below_set ?_ (Nat.le_refl _); refine below_set ?_ (Nat.le_refl _); exact hb2.out)⟩

          · replace hp : Lib.hasPrefix a0.data.toList (⟨#[101, 110, 100]⟩ : ByteArray).data.toList = false := by simpa using hp
            rw [hp] at cP
            replace cP := Lib.hid cP
            go_wp2_with (go_at_call 76; refine cP.out.mono ?_; rintro e w' ⟨rfl, rfl⟩)
            go_roundw
            case rel => exact ⟨8, by go_num, by omega, Lib.hid (fun i h1 h2 => by rcases (by omega : i < 7 ∨ i = 7) with h3 | rfl; exact hno.out i h1 h3; exact hp), hbb, hR⟩
            case measure => simp [RowKit.intOf]
      · obtain rfl : j = 8 := by omega
        have hrk : readK a0.data.toList = 0 := by
          unfold readK
          rw [if_neg (by rw [hno.out 1 (by omega) (by omega)]; simp), if_neg (by rw [hno.out 2 (by omega) (by omega)]; simp), if_neg (by rw [hno.out 3 (by omega) (by omega)]; simp), if_neg (by rw [hno.out 4 (by omega) (by omega)]; simp), if_neg (by rw [hno.out 5 (by omega) (by omega)]; simp), if_neg (by rw [hno.out 6 (by omega) (by omega)]; simp), if_neg (by rw [hno.out 7 (by omega) (by omega)]; simp)]
        have hE := h.out
        rw [hrk] at hE
        have hE := Option.some.inj hE
        simp only [Prod.mk.injEq] at hE
        obtain ⟨rfl, rfl, rfl, rfl, rfl, rfl⟩ := hE
        clear hno hI
        have q0 := hR.out.cell 0; simp at q0; have f0 := hR.out.frozen 0; have q1 := hR.out.cell 1; simp at q1; have f1 := hR.out.frozen 1; have q2 := hR.out.cell 2; simp at q2; have f2 := hR.out.frozen 2; have q3 := hR.out.cell 3; simp at q3; have f3 := hR.out.frozen 3; have q4 := hR.out.cell 4; simp at q4; have f4 := hR.out.frozen 4
        have hR3 := (((((hR.out.set 0 (.int .u8 0)).set 1 (.string ⟨#[]⟩)).set 2 (.int .i64 0)).set 3 (.int .i64 0)).set 4 (.bool false))
        have z0 := hR3.cell 0; simp at z0; have z1 := hR3.cell 1; simp at z1; have z2 := hR3.cell 2; simp at z2; have z3 := hR3.cell 3; simp at z3; have z4 := hR3.cell 4; simp at z4
        go_wp2_with fail
        (try simp only [Exit.inBlock, Exit.then])
        refine bodyPost_ret (v := .tuple #[.agg #[.int .u8 0, .string ⟨#[]⟩, .int .i64 0, .int .i64 0, .bool false], .bool false]) (by simp [results, Tryd.results49, go_sem, z0, z1, z2, z3, z4]) rfl ?_
        exact ⟨rfl, (by refine below_set ?_ (Nat.le_refl _); refine below_set ?_ (Nat.le_refl _); refine below_set ?_ (Nat.le_refl _); refine below_set ?_ (Nat.le_refl _); refine below_set ?_ (Nat.le_refl _); exact hbb)⟩
  · rw [if_neg hs] at h; cases h
end Go.Proofs.YtbdilejhbeffjaaDoor
