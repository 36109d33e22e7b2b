/- report.shown: the walk. Conditions: the line has at most 2^40 bytes; the number is none below zero nor beyond its characters. -/
import Derived.Test.YtdphhmigbbgjmaaDoorShow
namespace Go.Proofs.YtdphhmigbbgjmaaDoor
open Go.RowKit Go.Lib
attribute [local go_sem] byteAt_get wrap64_byteAt
set_option linter.unusedVariables false
/-- The first so many characters as they are shown; none, where there are not so many. -/
def ahN (n : Nat) (l : Bs) : Bs := if n ≤ cnt l then shN n l else []
set_option maxRecDepth 100000 in
set_option maxHeartbeats 16000000 in
theorem report_shown (s : ByteArray) (n : Nat) (w : World) (hs : s.size ≤ 1099511627776) (hn : n ≤ 1099511627776) :
    Calls Tryd.prog 57 #[.string s, .int .i64 n] w fun e w' => e = .returned (.tuple #[.string ⟨(shN (cnt s.data.toList) s.data.toList).toArray⟩, .string ⟨(ahN n s.data.toList).toArray⟩]) ∧ Below w.heap.size w w' := by
  go_enter Tryd.func57, Tryd.ntmps57
  go_wp2
  have hb0 := bd_new w.heap.size w (Nat.le_refl _)
  go_loopw [7, 8] (fun ah kk W => ∃ (pos k : Nat) (acc a : Bs), ah = .string ⟨a.toArray⟩ ∧ kk = .int .i64 k ∧ Hid (ShW w s pos acc W) ∧ Hid (ShI s n pos k acc) ∧ Hid (a = if n < k then shN n s.data.toList else [])) (fun _ _ W => s.size - W.iterPos (w.heap.size + 1))
  case atStart => exact ⟨0, 0, [], [], rfl, rfl, Lib.hid ⟨by have := World.iter_heap (w.alloc (.cells #[.pointer none, .slice none 0 0] TBd)) s 0; rw [World.size_alloc] at this; exact this, hb0.alloc _, ((Below.refl _ _).alloc (Nat.le_refl _) _).alloc (by simp) _⟩, Lib.hid (shI_start s n), Lib.hid (by simp)⟩
  case round =>
    obtain ⟨pos, k, acc, a, rfl, rfl, hW, hI, hA⟩ := hrel
    have hkp := hI.out.2.1
    have hps := hI.out.1
    by_cases hp : pos < s.size
    · have hnx : ∀ ty, (Instr.next (.pointer (some ⟨w.heap.size + 1, 0, none⟩)) true ty).run Tryd.prog wr = _ := fun ty => Lib.run_next_any_at wr (w.heap.size + 1) s pos ty hW.out.it hp
      have hpos1 : Hid (wr.iterPos (w.heap.size + 1) = pos) := by show _ = _; unfold World.iterPos; rw [hW.out.it]
      have hd1 := dec_pos s pos
      have hd2 := dec_le s pos hp
      have hph := rune_hi s pos
      have hI' := Lib.hid (shI_step hI.out hp)
      have hal := hI.out.2.2.2.1
      have hW2 := hW.out.next (pos + (Utf8.decode s pos).2)
      generalize hW2e : wr.iterAt (w.heap.size + 1) s (pos + (Utf8.decode s pos).2) = W2 at hnx hW2
      clear hW2e
      replace hW2 := Lib.hid hW2
      replace hI' := Lib.hid hI'.out
      generalize hS : pos + (Utf8.decode s pos).2 = S at *
      generalize (Utf8.decode s pos).1 = P at *
      have hrest : ∀ W3, ShW w s S acc W3 → ∀ r : Int, r = shR (P : Int) → Calls Tryd.prog 106 #[.pointer (some ⟨w.heap.size, 0, none⟩), .int .i32 r] W3 fun e W' => ∃ v, e = .returned v ∧ Hid (ShW w s S (acc ++ encodeRune (shR (P : Int))) W') := fun W3 h r e => by
        subst e
        exact (h.rune _ (by unfold shR; split <;> omega) (by unfold shR; split <;> omega) (by omega)).mono fun e W' ⟨h1, h2⟩ => ⟨_, h1, Lib.hid h2⟩
      have hA' : k ≠ n → (if n < k + 1 then shN n s.data.toList else []) = (if n < k then shN n s.data.toList else []) := fun h => by
        by_cases h1 : n < k
        · rw [if_pos h1, if_pos (by omega)]
        · rw [if_neg h1, if_neg (by omega)]
      have hA2 : k = n → acc = (if n < k + 1 then shN n s.data.toList else []) := fun h => by
        rw [if_pos (by omega)]; exact shI_at hI.out h
      replace hA' := Lib.hid hA'
      replace hA2 := Lib.hid hA2
      have hfin : ∀ W4, Hid (ShW w s S (acc ++ encodeRune (shR (P : Int))) W4) → Hid (W4.iterPos (w.heap.size + 1) = S) := fun W4 h => by show _ = _; unfold World.iterPos; rw [h.out.it]
      clear hW hI hal
      by_cases hc : (P : Int) < 32 ∨ (P : Int) = 127
      · have hcc : (decide ((P : Int) < 32) || ((P : Int) == 127)) = true := by simp; omega
        have hr : Hid ((32 : Int) = shR (P : Int)) := by show _ = _; unfold shR; rw [if_pos (by omega)]
        clear hc
        by_cases hkn : (k : Int) = (n : Int)
        · have hkN : k = n := by omega
          replace hA2 := Lib.hid (hA2.out hkN)
          clear hkN hA hA'
          go_wp2_with fail
          have hq := hW2.out.string
          refine hq.mono ?_
          clear hq hnx hW2
          rintro e W3 ⟨rfl, hW3⟩
          replace hW3 := Lib.hid hW3
          go_wp2_with fail
          all_goals first
          | (exfalso; omega)
          | (have hq := hrest _ hW3.out _ hr.out
             refine hq.mono ?_
             clear hrest hq hW3
             rintro e W4 ⟨v, rfl, hW4⟩
             have hp4 := hfin _ hW4
             clear hfin
             go_wp2_with fail
             go_roundw
             case rel => exact ⟨S, k + 1, acc ++ encodeRune (shR (P : Int)), acc, rfl, congrArg (Value.int IntKind.i64) (by omega), hW4, hI', hA2⟩
             case measure => rw [hpos1.out, hp4.out]; omega)
        · have hkN : k ≠ n := by omega
          replace hA2 := Lib.hid (hA.out.trans (hA'.out hkN).symm)
          have hW3 := hW2
          clear hkN hA hA'
          go_wp2_with fail
          all_goals first
          | (exfalso; omega)
          | (have hq := hrest _ hW3.out _ hr.out
             refine hq.mono ?_
             clear hrest hq hW3 hnx hW2
             rintro e W4 ⟨v, rfl, hW4⟩
             have hp4 := hfin _ hW4
             clear hfin
             go_wp2_with fail
             go_roundw
             case rel => exact ⟨S, k + 1, acc ++ encodeRune (shR (P : Int)), a, rfl, congrArg (Value.int IntKind.i64) (by omega), hW4, hI', hA2⟩
             case measure => rw [hpos1.out, hp4.out]; omega)
      · have hcc : ¬ (P : Int) < 32 := by omega
        have hcd : ((P : Int) == 127) = false := by simp; omega
        have hr : Hid ((P : Int) = shR (P : Int)) := by show _ = _; unfold shR; rw [if_neg (by omega)]
        clear hc
        by_cases hkn : (k : Int) = (n : Int)
        · have hkN : k = n := by omega
          replace hA2 := Lib.hid (hA2.out hkN)
          clear hkN hA hA'
          go_wp2_with fail
          have hq := hW2.out.string
          refine hq.mono ?_
          clear hq hnx hW2
          rintro e W3 ⟨rfl, hW3⟩
          replace hW3 := Lib.hid hW3
          go_wp2_with fail
          all_goals first
          | (exfalso; omega)
          | (have hq := hrest _ hW3.out _ hr.out
             refine hq.mono ?_
             clear hrest hq hW3
             rintro e W4 ⟨v, rfl, hW4⟩
             have hp4 := hfin _ hW4
             clear hfin
             go_wp2_with fail
             go_roundw
             case rel => exact ⟨S, k + 1, acc ++ encodeRune (shR (P : Int)), acc, rfl, congrArg (Value.int IntKind.i64) (by omega), hW4, hI', hA2⟩
             case measure => rw [hpos1.out, hp4.out]; omega)
        · have hkN : k ≠ n := by omega
          replace hA2 := Lib.hid (hA.out.trans (hA'.out hkN).symm)
          have hW3 := hW2
          clear hkN hA hA'
          go_wp2_with fail
          all_goals first
          | (exfalso; omega)
          | (have hq := hrest _ hW3.out _ hr.out
             refine hq.mono ?_
             clear hrest hq hW3 hnx hW2
             rintro e W4 ⟨v, rfl, hW4⟩
             have hp4 := hfin _ hW4
             clear hfin
             go_wp2_with fail
             go_roundw
             case rel => exact ⟨S, k + 1, acc ++ encodeRune (shR (P : Int)), a, rfl, congrArg (Value.int IntKind.i64) (by omega), hW4, hI', hA2⟩
             case measure => rw [hpos1.out, hp4.out]; omega)
    · have hnx : ∀ ty, (Instr.next (.pointer (some ⟨w.heap.size + 1, 0, none⟩)) true ty).run Tryd.prog wr = _ := fun ty => Lib.run_next_end_at wr (w.heap.size + 1) s pos ty hW.out.it hp
      obtain ⟨e1, e2, e3⟩ := shI_end hI.out hp
      have e1 := Lib.hid e1
      by_cases hkn : (k : Int) = (n : Int)
      · have hkN : k = n := by omega
        have fin : Hid (ahN n s.data.toList = acc) := by show _ = _; unfold ahN; rw [if_pos (by omega), e3 hkN]
        clear hA e3 e2 hkN
        go_wp2_with fail
        refine (hW.out.string).mono ?_
        rintro e W3 ⟨rfl, hW3⟩
        replace hW3 := Lib.hid hW3
        go_wp2_with fail
        refine (hW3.out.string).mono ?_
        rintro e W4 ⟨rfl, hW4⟩
        replace hW4 := Lib.hid hW4
        go_wp2_with fail
        go_ret2
        exact ⟨by rw [fin.out, ← e1.out]; rfl, hW4.out.lo⟩
      · have fin : Hid (ahN n s.data.toList = a) := by
          show _ = _; unfold ahN; rw [hA.out]
          by_cases h : n < k
          · rw [if_pos h, if_pos (by omega)]
          · rw [if_neg h, if_neg (by omega)]
        clear hA e3 e2
        go_wp2_with fail
        refine (hW.out.string).mono ?_
        rintro e W4 ⟨rfl, hW4⟩
        replace hW4 := Lib.hid hW4
        go_wp2_with fail
        go_ret2
        exact ⟨by rw [fin.out, ← e1.out]; rfl, hW4.out.lo⟩
end Go.Proofs.YtdphhmigbbgjmaaDoor
