/- report.Show of a Fault: the walk. Conditions: as RepS says. -/
import Derived.Test.YtdphhmigbbgjmaaDoorRepS
namespace Go.Proofs.YtdphhmigbbgjmaaDoor
open Go.RowKit Go.Lib
attribute [local go_sem] byteAt_get wrap64_byteAt
set_option linter.unusedVariables false
set_option linter.unusedSimpArgs false
set_option maxRecDepth 100000 in
set_option maxHeartbeats 8000000 in
theorem report_Show_A (n s : ByteArray) (b : Nat) (c a l col : Int) (w : World) (hn : n.size ≤ 1099511627776) (hs : s.size ≤ 1073741824) (hc : inI c) (hl : inI l) (hco : inI col) (hT : RepW w) (hB : Blk w b #[.int .i64 c, .int .i64 a, .int .i64 l, .int .i64 col] 52) :
    Calls Tryd.prog 29 #[.string n, .string s, .iface 55 (.pointer (some ⟨b, 0, none⟩))] w fun e w' => e = .returned (.string (showB n s c l col)) ∧ Below w.heap.size w w' := by
  have hlt := hB.lt
  have hzF := fltB_size c l col hc hl hco
  have hFE : ∀ W, Below w.heap.size w W → Calls Tryd.prog 55 #[.pointer (some ⟨b, 0, none⟩)] W fun e w' => e = .returned (.string (fltB c l col)) ∧ Below W.heap.size W w' := fun W h => fault_Error b c a l col hc hl hco W (hT.below h) (hB.below h hlt)
  have hCells : ∀ W, Below w.heap.size w W → W.cell? ⟨b, 2, none⟩ = some (.int .i64 l) ∧ W.cell? ⟨b, 3, none⟩ = some (.int .i64 col) := fun W h => by
    have k2 := (hB.below h hlt).cell 2; have k3 := (hB.below h hlt).cell 3
    simp at k2 k3; exact ⟨k2, k3⟩
  have hTe : ∀ W, Below w.heap.size w W → RepW W := fun W h => hT.below h
  have mE := m_Error1 (some ⟨b, 0, none⟩)
  have e2 : (⟨#[58, 32]⟩ : ByteArray).size = 2 := rfl
  have hfl := hedB_flt n c l col
  have hb0 := Below.refl w.heap.size w
  generalize hF : fltB c l col = F at *
  have q0 : (9223372036854775807 < n.size + 2) = False := eq_false (by omega)
  have q1 : (9223372036854775807 < n.size + 2 + F.size) = False := eq_false (by omega)
  have q2 : (9223372036854775807 < n.size + 2 + F.size + 1) = False := eq_false (by omega)
  have q1' : (9223372036854775807 < (n ++ ⟨#[58, 32]⟩).size + F.size) = False := eq_false (by rw [ByteArray.size_append, e2]; omega)
  have q2' : (9223372036854775807 < (n ++ ⟨#[58, 32]⟩ ++ F).size + 1) = False := eq_false (by rw [ByteArray.size_append, ByteArray.size_append, e2]; omega)
  clear hF e2
  obtain ⟨⟨x, is⟩, hx⟩ : ∃ p, lineT s.data.toList l = p := ⟨_, rfl⟩
  have hxs := lineT_size s l
  rw [hx] at hxs
  have hxs : x.size ≤ s.size := hxs
  have hNx := cnt_le x.data.toList
  rw [size_len] at hNx
  have hlw : wrap64 l = l := by unfold inI at hl; unfold wrap64; omega
  have hLn : ∀ W, Calls Tryd.prog 56 #[.string s, .int .i64 l] W fun e w' => e = .returned (.tuple #[.string x, .bool is]) ∧ Below W.heap.size W w' := fun W => by
    have := place_Line s l W (by omega) hlw
    rw [lineV_T, hx] at this; exact this
  have hCn : ∀ W, Calls Tryd.prog 44 #[.string x] W fun e w' => e = .returned (.int .i64 (cnt x.data.toList)) ∧ Below W.heap.size W w' := fun W => char_Count x W (by omega)
  have hfin : showB n s c l col = if is = true then (if col < 1 ∨ (cnt x.data.toList : Int) + 1 < col then hedB n c l col
    else hedB n c l col ++ ⟨#[32, 32]⟩ ++ ⟨(shN (cnt x.data.toList) x.data.toList).toArray⟩ ++ ⟨#[10, 32, 32]⟩ ++ blB (wid (ahN (col - 1).toNat x.data.toList)).toNat ++ ⟨#[94, 10]⟩) else hedB n c l col := by
    unfold showB; rw [hx]
  have hHs := hedB_size n c l col hc hl hco
  generalize showB n s c l col = R at *
  generalize hedB n c l col = Hd at *
  replace hfin := Lib.hid hfin; replace hLn := Lib.hid hLn; replace hCn := Lib.hid hCn
  clear hx hlw
  replace hFE := Lib.hid hFE; replace hCells := Lib.hid hCells; replace hTe := Lib.hid hTe; replace hfl := Lib.hid hfl
  have hBh := Lib.hid hB
  clear hT hB
  go_enter Tryd.func29, Tryd.ntmps29
  go_wp2_with (go_at_call 55; refine (hFE.out _ hb0).mono ?_; rintro e w1 ⟨rfl, hb⟩; replace hb0 := hb0.trans (hb.mono hb0.size); clear hb)
  have hq0 := Blk.new w1 #[.pointer none] 55
  have hbA := hb0.alloc hb0.size (.cells #[.pointer none] 55)
  refine (as_hit' (some ⟨b, 0, none⟩) w1.heap.size _ (hTe.out _ hbA).e hq0).mono ?_
  rintro e w2 ⟨rfl, hq2, hb2⟩
  replace hq2 := Lib.hid hq2
  have hb2' : Below w.heap.size w w2 := hbA.trans (hb2.mono hb0.size)
  clear hbA hq0 hb2
  have kq := hq2.out.cell 0
  have hwq : w.heap.size ≤ w1.heap.size := hb0.size
  generalize w1.heap.size = q at *
  simp at kq
  clear hb0
  cases is with
  | false =>
    have hR : Hid (R = Hd) := Lib.hid (by rw [hfin.out, if_neg (by decide)])
    clear hfin
    go_wp2_with (first | (go_at_call 55; refine (hFE.out _ hb2').mono ?_; rintro e w3 ⟨rfl, hb⟩; replace hq2 := Lib.hid (hq2.out.below' hb); replace hb2' := hb2'.trans (hb.mono hb2'.size); replace kq := hq2.out.cell 0; simp at kq; clear hb; (try clear kl kc); obtain ⟨kl, kc⟩ := hCells.out _ hb2') | (go_at_call 56; refine (hLn.out _).mono ?_; rintro e w4 ⟨rfl, hb⟩; replace hq2 := Lib.hid (hq2.out.below' hb); replace hb2' := hb2'.trans (hb.mono hb2'.size); replace kq := hq2.out.cell 0; simp at kq; clear hb; (try clear kl kc); obtain ⟨kl, kc⟩ := hCells.out _ hb2') | (go_at_call 44; refine (hCn.out _).mono ?_; rintro e w5 ⟨rfl, hb⟩; replace hq2 := Lib.hid (hq2.out.below' hb); replace hb2' := hb2'.trans (hb.mono hb2'.size); replace kq := hq2.out.cell 0; simp at kq; clear hb; (try clear kl kc); obtain ⟨kl, kc⟩ := hCells.out _ hb2'))
    go_ret
    exact ⟨by rw [hR.out]; show Ending.returned (Value.string _) = _; rw [hfl.out], hb2'⟩
  | true =>
    have hfin := Lib.hid (hfin.out.trans (if_pos rfl))
    by_cases h1 : col < 1
    · have hR : Hid (R = Hd) := Lib.hid (by rw [hfin.out, if_pos (.inl h1)])
      clear hfin
      go_wp2_with (first | (go_at_call 55; refine (hFE.out _ hb2').mono ?_; rintro e w3 ⟨rfl, hb⟩; replace hq2 := Lib.hid (hq2.out.below' hb); replace hb2' := hb2'.trans (hb.mono hb2'.size); replace kq := hq2.out.cell 0; simp at kq; clear hb; (try clear kl kc); obtain ⟨kl, kc⟩ := hCells.out _ hb2') | (go_at_call 56; refine (hLn.out _).mono ?_; rintro e w4 ⟨rfl, hb⟩; replace hq2 := Lib.hid (hq2.out.below' hb); replace hb2' := hb2'.trans (hb.mono hb2'.size); replace kq := hq2.out.cell 0; simp at kq; clear hb; (try clear kl kc); obtain ⟨kl, kc⟩ := hCells.out _ hb2') | (go_at_call 44; refine (hCn.out _).mono ?_; rintro e w5 ⟨rfl, hb⟩; replace hq2 := Lib.hid (hq2.out.below' hb); replace hb2' := hb2'.trans (hb.mono hb2'.size); replace kq := hq2.out.cell 0; simp at kq; clear hb; (try clear kl kc); obtain ⟨kl, kc⟩ := hCells.out _ hb2'))
      go_ret
      exact ⟨by rw [hR.out]; show Ending.returned (Value.string _) = _; rw [hfl.out], hb2'⟩
    · have hwc : Hid (wrap64 ((cnt x.data.toList : Int) + 1) = (cnt x.data.toList : Int) + 1) := Lib.hid (by unfold wrap64; omega)
      by_cases h2 : (cnt x.data.toList : Int) + 1 < col
      · have hR : Hid (R = Hd) := Lib.hid (by rw [hfin.out, if_pos (.inr h2)])
        clear hfin
        replace hwc := hwc.out
        generalize (cnt x.data.toList : Int) = N at *
        go_wp2_with (first | (go_at_call 55; refine (hFE.out _ hb2').mono ?_; rintro e w3 ⟨rfl, hb⟩; replace hq2 := Lib.hid (hq2.out.below' hb); replace hb2' := hb2'.trans (hb.mono hb2'.size); replace kq := hq2.out.cell 0; simp at kq; clear hb; (try clear kl kc); obtain ⟨kl, kc⟩ := hCells.out _ hb2') | (go_at_call 56; refine (hLn.out _).mono ?_; rintro e w4 ⟨rfl, hb⟩; replace hq2 := Lib.hid (hq2.out.below' hb); replace hb2' := hb2'.trans (hb.mono hb2'.size); replace kq := hq2.out.cell 0; simp at kq; clear hb; (try clear kl kc); obtain ⟨kl, kc⟩ := hCells.out _ hb2') | (go_at_call 44; refine (hCn.out _).mono ?_; rintro e w5 ⟨rfl, hb⟩; replace hq2 := Lib.hid (hq2.out.below' hb); replace hb2' := hb2'.trans (hb.mono hb2'.size); replace kq := hq2.out.cell 0; simp at kq; clear hb; (try clear kl kc); obtain ⟨kl, kc⟩ := hCells.out _ hb2'))
        go_ret
        exact ⟨by rw [hR.out]; show Ending.returned (Value.string _) = _; rw [hfl.out], hb2'⟩
      · have hg1 := hfin.out.trans (if_neg (not_or.2 ⟨h1, h2⟩))
        clear hfin
        obtain ⟨K, hK⟩ : ∃ K : Nat, col - 1 = (K : Int) := ⟨(col - 1).toNat, by have := Int.not_lt.1 h1; exact (Int.toNat_of_nonneg (Int.sub_nonneg.2 this)).symm⟩
        have hKc : K ≤ cnt x.data.toList := by have := Int.not_lt.1 h2; omega
        have hwm : Hid (wrap64 (col - 1) = (K : Int)) := Lib.hid (by rw [hK]; unfold wrap64; omega)
        rw [hK, Int.toNat_natCast] at hg1
        have hSh := fun W => report_shown x K W (by omega) (by omega)
        have hAl := shN_len (cnt x.data.toList) x.data.toList
        have hHl : (ahN K x.data.toList).length ≤ 4 * K := by
          unfold ahN
          rw [if_pos hKc]; exact shN_len _ _
        obtain ⟨A, hA⟩ : ∃ A : ByteArray, (⟨(shN (cnt x.data.toList) x.data.toList).toArray⟩ : ByteArray) = A := ⟨_, rfl⟩
        obtain ⟨H, hH⟩ : ∃ H : ByteArray, (⟨(ahN K x.data.toList).toArray⟩ : ByteArray) = H := ⟨_, rfl⟩
        have hHd : ahN K x.data.toList = H.data.toList := by rw [← hH]
        have hAs : A.size ≤ 4 * cnt x.data.toList := by rw [← hA]; show (List.toArray _).size ≤ _; simpa using hAl
        have hHs' : H.data.toList.length ≤ 4 * K := by rw [← hHd]; exact hHl
        rw [hHd] at hg1
        rw [hA] at hg1
        rw [hA, hH] at hSh
        have hWt : ∀ W, Below w.heap.size w W → Calls Tryd.prog 59 #[.string H] W fun e w' => e = .returned (.int .i64 (wid H.data.toList)) ∧ Below W.heap.size W w' := fun W h => width_Text H W (by rw [← size_len]; omega) (hTe.out W h).t
        obtain ⟨M, hM⟩ : ∃ M : Nat, wid H.data.toList = (M : Int) := ⟨(wid H.data.toList).toNat, (Int.toNat_of_nonneg (wid_le _).1).symm⟩
        have hMl : M ≤ 8 * K := by have := (wid_le H.data.toList).2; omega
        rw [hM, Int.toNat_natCast] at hg1
        simp only [hM] at hWt
        have hRp : ∀ W, Calls Tryd.prog 58 #[.string ⟨#[32]⟩, .int .i64 M] W fun e w' => e = .returned (.string (blB M)) ∧ Below W.heap.size W w' := fun W => Tryd.strings_Repeat ⟨#[32]⟩ M W (by omega) (by show 1 * M ≤ _; omega)
        have hBs : (blB M).size = M := by unfold blB; show (List.toArray _).size = _; rw [List.size_toArray, Lib.repeatL_length]; simp
        generalize blB M = Bl at *
        have e2 : (⟨#[32, 32]⟩ : ByteArray).size = 2 := rfl
        have e3 : (⟨#[10, 32, 32]⟩ : ByteArray).size = 3 := rfl
        have e1 : (⟨#[10]⟩ : ByteArray).size = 1 := rfl
        have e4 : (⟨#[58, 32]⟩ : ByteArray).size = 2 := rfl
        have q1 : (9223372036854775807 < n.size + 2 + F.size + 1 + 2) = False := eq_false (by omega)
        have q2 : (9223372036854775807 < n.size + 2 + F.size + 1 + 2 + A.size) = False := eq_false (by omega)
        have q3 : (9223372036854775807 < n.size + 2 + F.size + 1 + 2 + A.size + 3) = False := eq_false (by omega)
        have q4 : (9223372036854775807 < n.size + 2 + F.size + 1 + 2 + A.size + 3 + Bl.size) = False := eq_false (by omega)
        have q5 : (9223372036854775807 < n.size + 2 + F.size + 1 + 2 + A.size + 3 + Bl.size + 2) = False := eq_false (by omega)
        have r1 : (9223372036854775807 < (n ++ ⟨#[58, 32]⟩ ++ F ++ ⟨#[10]⟩).size + 2) = False := eq_false (by simp only [ByteArray.size_append, e1, e4]; omega)
        have r2 : (9223372036854775807 < (n ++ ⟨#[58, 32]⟩ ++ F ++ ⟨#[10]⟩ ++ ⟨#[32, 32]⟩).size + A.size) = False := eq_false (by simp only [ByteArray.size_append, e1, e2, e4]; omega)
        have r3 : (9223372036854775807 < (n ++ ⟨#[58, 32]⟩ ++ F ++ ⟨#[10]⟩ ++ ⟨#[32, 32]⟩ ++ A).size + 3) = False := eq_false (by simp only [ByteArray.size_append, e1, e2, e4]; omega)
        have r4 : (9223372036854775807 < (n ++ ⟨#[58, 32]⟩ ++ F ++ ⟨#[10]⟩ ++ ⟨#[32, 32]⟩ ++ A ++ ⟨#[10, 32, 32]⟩).size + Bl.size) = False := eq_false (by simp only [ByteArray.size_append, e1, e2, e3, e4]; omega)
        have r5 : (9223372036854775807 < (n ++ ⟨#[58, 32]⟩ ++ F ++ ⟨#[10]⟩ ++ ⟨#[32, 32]⟩ ++ A ++ ⟨#[10, 32, 32]⟩ ++ Bl).size + 2) = False := eq_false (by simp only [ByteArray.size_append, e1, e2, e3, e4]; omega)
        clear e1 e2 e3 e4 hA hH hHd hAl hHl hK hM hAs hHs' hMl hBs hKc hNx hxs hHs
        replace hSh := Lib.hid hSh; replace hWt := Lib.hid hWt; replace hRp := Lib.hid hRp
        replace hg1 := Lib.hid hg1
        replace hwc := hwc.out; replace hwm := hwm.out
        generalize (cnt x.data.toList : Int) = N at *
        go_wp2_with (first | (go_at_call 55; refine (hFE.out _ hb2').mono ?_; rintro e w3 ⟨rfl, hb⟩; replace hq2 := Lib.hid (hq2.out.below' hb); replace hb2' := hb2'.trans (hb.mono hb2'.size); replace kq := hq2.out.cell 0; simp at kq; clear hb; (try clear kl kc); obtain ⟨kl, kc⟩ := hCells.out _ hb2') | (go_at_call 56; refine (hLn.out _).mono ?_; rintro e w4 ⟨rfl, hb⟩; replace hq2 := Lib.hid (hq2.out.below' hb); replace hb2' := hb2'.trans (hb.mono hb2'.size); replace kq := hq2.out.cell 0; simp at kq; clear hb; (try clear kl kc); obtain ⟨kl, kc⟩ := hCells.out _ hb2') | (go_at_call 44; refine (hCn.out _).mono ?_; rintro e w5 ⟨rfl, hb⟩; replace hq2 := Lib.hid (hq2.out.below' hb); replace hb2' := hb2'.trans (hb.mono hb2'.size); replace kq := hq2.out.cell 0; simp at kq; clear hb; (try clear kl kc); obtain ⟨kl, kc⟩ := hCells.out _ hb2') | (go_at_call 57; refine (hSh.out _).mono ?_; rintro e w6 ⟨rfl, hb⟩; replace hq2 := Lib.hid (hq2.out.below' hb); replace hb2' := hb2'.trans (hb.mono hb2'.size); replace kq := hq2.out.cell 0; simp at kq; clear hb; (try clear kl kc); obtain ⟨kl, kc⟩ := hCells.out _ hb2') | (go_at_call 59; refine (hWt.out _ hb2').mono ?_; rintro e w7 ⟨rfl, hb⟩; replace hq2 := Lib.hid (hq2.out.below' hb); replace hb2' := hb2'.trans (hb.mono hb2'.size); replace kq := hq2.out.cell 0; simp at kq; clear hb; (try clear kl kc); obtain ⟨kl, kc⟩ := hCells.out _ hb2') | (go_at_call 58; refine (hRp.out _).mono ?_; rintro e w8 ⟨rfl, hb⟩; replace hq2 := Lib.hid (hq2.out.below' hb); replace hb2' := hb2'.trans (hb.mono hb2'.size); replace kq := hq2.out.cell 0; simp at kq; clear hb; (try clear kl kc); obtain ⟨kl, kc⟩ := hCells.out _ hb2'))
        go_ret
        exact ⟨by rw [hg1.out]; show Ending.returned (Value.string _) = _; rw [hfl.out], hb2'⟩
end Go.Proofs.YtdphhmigbbgjmaaDoor
