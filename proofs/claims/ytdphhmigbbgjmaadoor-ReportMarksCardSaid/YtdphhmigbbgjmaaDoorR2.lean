/- report.Show of a Fault: the walk. Conditions: as RepS says. report.Show of an error that holds a Fault, of another one, of a nil Fault, of none: the walks. Conditions: as RepS says. report.Show of an error that holds no Fault, of a nil Fault, of none: the walks. Conditions: as RepS says. -/
import Derived.Test.YtdphhmigbbgjmaaDoorRepS
section
namespace Go.Proofs.YtdphhmigbbgjmaaDoor
open Go.RowKit Go.Lib
attribute [local go_sem] byteAt_get wrap64_byteAt
set_option linter.unusedVariables false
set_option linter.unusedSimpArgs false
set_option maxRecDepth 100000 in
set_option maxHeartbeats 8000000 in
theorem report_Show_A (n s : ByteArray) (b : Nat) (c a l col : Int) (w : World) (hn : n.size ≤ 1099511627776) (hs : s.size ≤ 1073741824) (hc : inI c) (hl : inI l) (hco : inI col) (hT : RepW w) (hB : Blk w b #[.int .i64 c, .int .i64 a, .int .i64 l, .int .i64 col] 52) :
    Calls Tryd.prog 29 #[.string n, .string s, .iface 55 (.pointer (some ⟨b, 0, none⟩))] w fun e w' => e = .returned (.string (showB n s c l col)) ∧ Below w.heap.size w w' := by
  have hlt := hB.lt
  have hzF := fltB_size c l col hc hl hco
  have hFE : ∀ W, Below w.heap.size w W → Calls Tryd.prog 55 #[.pointer (some ⟨b, 0, none⟩)] W fun e w' => e = .returned (.string (fltB c l col)) ∧ Below W.heap.size W w' := fun W h => fault_Error b c a l col hc hl hco W (hT.below h) (hB.below h hlt)
  have hCells : ∀ W, Below w.heap.size w W → W.cell? ⟨b, 2, none⟩ = some (.int .i64 l) ∧ W.cell? ⟨b, 3, none⟩ = some (.int .i64 col) := fun W h => by
    have k2 := (hB.below h hlt).cell 2; have k3 := (hB.below h hlt).cell 3
    simp at k2 k3; exact ⟨k2, k3⟩
  have hTe : ∀ W, Below w.heap.size w W → RepW W := fun W h => hT.below h
  have mE := m_Error1 (some ⟨b, 0, none⟩)
  have e2 : (⟨#[58, 32]⟩ : ByteArray).size = 2 := rfl
  have hfl := hedB_flt n c l col
  have hb0 := Below.refl w.heap.size w
  generalize hF : fltB c l col = F at *
  have q0 : (9223372036854775807 < n.size + 2) = False := eq_false (by omega)
  have q1 : (9223372036854775807 < n.size + 2 + F.size) = False := eq_false (by omega)
  have q2 : (9223372036854775807 < n.size + 2 + F.size + 1) = False := eq_false (by omega)
  have q1' : (9223372036854775807 < (n ++ ⟨#[58, 32]⟩).size + F.size) = False := eq_false (by rw [ByteArray.size_append, e2]; omega)
  have q2' : (9223372036854775807 < (n ++ ⟨#[58, 32]⟩ ++ F).size + 1) = False := eq_false (by rw [ByteArray.size_append, ByteArray.size_append, e2]; omega)
  clear hF e2
  obtain ⟨⟨x, is⟩, hx⟩ : ∃ p, lineT s.data.toList l = p := ⟨_, rfl⟩
  have hxs := lineT_size s l
  rw [hx] at hxs
  have hxs : x.size ≤ s.size := hxs
  have hNx := cnt_le x.data.toList
  rw [size_len] at hNx
  have hlw : wrap64 l = l := by unfold inI at hl; unfold wrap64; omega
  have hLn : ∀ W, Calls Tryd.prog 56 #[.string s, .int .i64 l] W fun e w' => e = .returned (.tuple #[.string x, .bool is]) ∧ Below W.heap.size W w' := fun W => by
    have := place_Line s l W (by omega) hlw
    rw [lineV_T, hx] at this; exact this
  have hCn : ∀ W, Calls Tryd.prog 44 #[.string x] W fun e w' => e = .returned (.int .i64 (cnt x.data.toList)) ∧ Below W.heap.size W w' := fun W => char_Count x W (by omega)
  have hfin : showB n s c l col = if is = true then (if col < 1 ∨ (cnt x.data.toList : Int) + 1 < col then hedB n c l col
    else hedB n c l col ++ ⟨#[32, 32]⟩ ++ ⟨(shN (cnt x.data.toList) x.data.toList).toArray⟩ ++ ⟨#[10, 32, 32]⟩ ++ blB (wid (ahN (col - 1).toNat x.data.toList)).toNat ++ ⟨#[94, 10]⟩) else hedB n c l col := by
    unfold showB; rw [hx]
  have hHs := hedB_size n c l col hc hl hco
  generalize showB n s c l col = R at *
  generalize hedB n c l col = Hd at *
  replace hfin := Lib.hid hfin; replace hLn := Lib.hid hLn; replace hCn := Lib.hid hCn
  clear hx hlw
  replace hFE := Lib.hid hFE; replace hCells := Lib.hid hCells; replace hTe := Lib.hid hTe; replace hfl := Lib.hid hfl
  have hBh := Lib.hid hB
  clear hT hB
  go_enter Tryd.func29, Tryd.ntmps29
  go_wp2_with (go_at_call 55; refine (hFE.out _ hb0).mono ?_; rintro e w1 ⟨rfl, hb⟩; replace hb0 := hb0.trans (hb.mono hb0.size); clear hb)
  have hq0 := Blk.new w1 #[.pointer none] 55
  have hbA := hb0.alloc hb0.size (.cells #[.pointer none] 55)
  refine (as_hit' (some ⟨b, 0, none⟩) w1.heap.size _ (hTe.out _ hbA).e hq0).mono ?_
  rintro e w2 ⟨rfl, hq2, hb2⟩
  replace hq2 := Lib.hid hq2
  have hb2' : Below w.heap.size w w2 := hbA.trans (hb2.mono hb0.size)
  clear hbA hq0 hb2
  have kq := hq2.out.cell 0
  have hwq : w.heap.size ≤ w1.heap.size := hb0.size
  generalize w1.heap.size = q at *
  simp at kq
  clear hb0
  cases is with
  | false =>
    have hR : Hid (R = Hd) := Lib.hid (by rw [hfin.out, if_neg (by decide)])
    clear hfin
    go_wp2_with (first | (go_at_call 55; refine (hFE.out _ hb2').mono ?_; rintro e w3 ⟨rfl, hb⟩; replace hq2 := Lib.hid (hq2.out.below' hb); replace hb2' := hb2'.trans (hb.mono hb2'.size); replace kq := hq2.out.cell 0; simp at kq; clear hb; (try clear kl kc); obtain ⟨kl, kc⟩ := hCells.out _ hb2') | (go_at_call 56; refine (hLn.out _).mono ?_; rintro e w4 ⟨rfl, hb⟩; replace hq2 := Lib.hid (hq2.out.below' hb); replace hb2' := hb2'.trans (hb.mono hb2'.size); replace kq := hq2.out.cell 0; simp at kq; clear hb; (try clear kl kc); obtain ⟨kl, kc⟩ := hCells.out _ hb2') | (go_at_call 44; refine (hCn.out _).mono ?_; rintro e w5 ⟨rfl, hb⟩; replace hq2 := Lib.hid (hq2.out.below' hb); replace hb2' := hb2'.trans (hb.mono hb2'.size); replace kq := hq2.out.cell 0; simp at kq; clear hb; (try clear kl kc); obtain ⟨kl, kc⟩ := hCells.out _ hb2'))
    go_ret
    exact ⟨by rw [hR.out]; show Ending.returned (Value.string _) = _; rw [hfl.out], hb2'⟩
  | true =>
    have hfin := Lib.hid (hfin.out.trans (if_pos rfl))
    by_cases h1 : col < 1
    · have hR : Hid (R = Hd) := Lib.hid (by rw [hfin.out, if_pos (.inl h1)])
      clear hfin
      go_wp2_with (first | (go_at_call 55; refine (hFE.out _ hb2').mono ?_; rintro e w3 ⟨rfl, hb⟩; replace hq2 := Lib.hid (hq2.out.below' hb); replace hb2' := hb2'.trans (hb.mono hb2'.size); replace kq := hq2.out.cell 0; simp at kq; clear hb; (try clear kl kc); obtain ⟨kl, kc⟩ := hCells.out _ hb2') | (go_at_call 56; refine (hLn.out _).mono ?_; rintro e w4 ⟨rfl, hb⟩; replace hq2 := Lib.hid (hq2.out.below' hb); replace hb2' := hb2'.trans (hb.mono hb2'.size); replace kq := hq2.out.cell 0; simp at kq; clear hb; (try clear kl kc); obtain ⟨kl, kc⟩ := hCells.out _ hb2') | (go_at_call 44; refine (hCn.out _).mono ?_; rintro e w5 ⟨rfl, hb⟩; replace hq2 := Lib.hid (hq2.out.below' hb); replace hb2' := hb2'.trans (hb.mono hb2'.size); replace kq := hq2.out.cell 0; simp at kq; clear hb; (try clear kl kc); obtain ⟨kl, kc⟩ := hCells.out _ hb2'))
      go_ret
      exact ⟨by rw [hR.out]; show Ending.returned (Value.string _) = _; rw [hfl.out], hb2'⟩
    · have hwc : Hid (wrap64 ((cnt x.data.toList : Int) + 1) = (cnt x.data.toList : Int) + 1) := Lib.hid (by unfold wrap64; omega)
      by_cases h2 : (cnt x.data.toList : Int) + 1 < col
      · have hR : Hid (R = Hd) := Lib.hid (by rw [hfin.out, if_pos (.inr h2)])
        clear hfin
        replace hwc := hwc.out
        generalize (cnt x.data.toList : Int) = N at *
        go_wp2_with (first | (go_at_call 55; refine (hFE.out _ hb2').mono ?_; rintro e w3 ⟨rfl, hb⟩; replace hq2 := Lib.hid (hq2.out.below' hb); replace hb2' := hb2'.trans (hb.mono hb2'.size); replace kq := hq2.out.cell 0; simp at kq; clear hb; (try clear kl kc); obtain ⟨kl, kc⟩ := hCells.out _ hb2') | (go_at_call 56; refine (hLn.out _).mono ?_; rintro e w4 ⟨rfl, hb⟩; replace hq2 := Lib.hid (hq2.out.below' hb); replace hb2' := hb2'.trans (hb.mono hb2'.size); replace kq := hq2.out.cell 0; simp at kq; clear hb; (try clear kl kc); obtain ⟨kl, kc⟩ := hCells.out _ hb2') | (go_at_call 44; refine (hCn.out _).mono ?_; rintro e w5 ⟨rfl, hb⟩; replace hq2 := Lib.hid (hq2.out.below' hb); replace hb2' := hb2'.trans (hb.mono hb2'.size); replace kq := hq2.out.cell 0; simp at kq; clear hb; (try clear kl kc); obtain ⟨kl, kc⟩ := hCells.out _ hb2'))
        go_ret
        exact ⟨by rw [hR.out]; show Ending.returned (Value.string _) = _; rw [hfl.out], hb2'⟩
      · have hg1 := hfin.out.trans (if_neg (not_or.2 ⟨h1, h2⟩))
        clear hfin
        obtain ⟨K, hK⟩ : ∃ K : Nat, col - 1 = (K : Int) := ⟨(col - 1).toNat, by have := Int.not_lt.1 h1; exact (Int.toNat_of_nonneg (Int.sub_nonneg.2 this)).symm⟩
        have hKc : K ≤ cnt x.data.toList := by have := Int.not_lt.1 h2; omega
        have hwm : Hid (wrap64 (col - 1) = (K : Int)) := Lib.hid (by rw [hK]; unfold wrap64; omega)
        rw [hK, Int.toNat_natCast] at hg1
        have hSh := fun W => report_shown x K W (by omega) (by omega)
        have hAl := shN_len (cnt x.data.toList) x.data.toList
        have hHl : (ahN K x.data.toList).length ≤ 4 * K := by
          unfold ahN
          rw [if_pos hKc]; exact shN_len _ _
        obtain ⟨A, hA⟩ : ∃ A : ByteArray, (⟨(shN (cnt x.data.toList) x.data.toList).toArray⟩ : ByteArray) = A := ⟨_, rfl⟩
        obtain ⟨H, hH⟩ : ∃ H : ByteArray, (⟨(ahN K x.data.toList).toArray⟩ : ByteArray) = H := ⟨_, rfl⟩
        have hHd : ahN K x.data.toList = H.data.toList := by rw [← hH]
        have hAs : A.size ≤ 4 * cnt x.data.toList := by rw [← hA]; show (List.toArray _).size ≤ _; simpa using hAl
        have hHs' : H.data.toList.length ≤ 4 * K := by rw [← hHd]; exact hHl
        rw [hHd] at hg1
        rw [hA] at hg1
        rw [hA, hH] at hSh
        have hWt : ∀ W, Below w.heap.size w W → Calls Tryd.prog 59 #[.string H] W fun e w' => e = .returned (.int .i64 (wid H.data.toList)) ∧ Below W.heap.size W w' := fun W h => width_Text H W (by rw [← size_len]; omega) (hTe.out W h).t
        obtain ⟨M, hM⟩ : ∃ M : Nat, wid H.data.toList = (M : Int) := ⟨(wid H.data.toList).toNat, (Int.toNat_of_nonneg (wid_le _).1).symm⟩
        have hMl : M ≤ 8 * K := by have := (wid_le H.data.toList).2; omega
        rw [hM, Int.toNat_natCast] at hg1
        simp only [hM] at hWt
        have hRp : ∀ W, Calls Tryd.prog 58 #[.string ⟨#[32]⟩, .int .i64 M] W fun e w' => e = .returned (.string (blB M)) ∧ Below W.heap.size W w' := fun W => Tryd.strings_Repeat ⟨#[32]⟩ M W (by omega) (by show 1 * M ≤ _; omega)
        have hBs : (blB M).size = M := by unfold blB; show (List.toArray _).size = _; rw [List.size_toArray, Lib.repeatL_length]; simp
        generalize blB M = Bl at *
        have e2 : (⟨#[32, 32]⟩ : ByteArray).size = 2 := rfl
        have e3 : (⟨#[10, 32, 32]⟩ : ByteArray).size = 3 := rfl
        have e1 : (⟨#[10]⟩ : ByteArray).size = 1 := rfl
        have e4 : (⟨#[58, 32]⟩ : ByteArray).size = 2 := rfl
        have q1 : (9223372036854775807 < n.size + 2 + F.size + 1 + 2) = False := eq_false (by omega)
        have q2 : (9223372036854775807 < n.size + 2 + F.size + 1 + 2 + A.size) = False := eq_false (by omega)
        have q3 : (9223372036854775807 < n.size + 2 + F.size + 1 + 2 + A.size + 3) = False := eq_false (by omega)
        have q4 : (9223372036854775807 < n.size + 2 + F.size + 1 + 2 + A.size + 3 + Bl.size) = False := eq_false (by omega)
        have q5 : (9223372036854775807 < n.size + 2 + F.size + 1 + 2 + A.size + 3 + Bl.size + 2) = False := eq_false (by omega)
        have r1 : (9223372036854775807 < (n ++ ⟨#[58, 32]⟩ ++ F ++ ⟨#[10]⟩).size + 2) = False := eq_false (by simp only [ByteArray.size_append, e1, e4]; omega)
        have r2 : (9223372036854775807 < (n ++ ⟨#[58, 32]⟩ ++ F ++ ⟨#[10]⟩ ++ ⟨#[32, 32]⟩).size + A.size) = False := eq_false (by simp only [ByteArray.size_append, e1, e2, e4]; omega)
        have r3 : (9223372036854775807 < (n ++ ⟨#[58, 32]⟩ ++ F ++ ⟨#[10]⟩ ++ ⟨#[32, 32]⟩ ++ A).size + 3) = False := eq_false (by simp only [ByteArray.size_append, e1, e2, e4]; omega)
        have r4 : (9223372036854775807 < (n ++ ⟨#[58, 32]⟩ ++ F ++ ⟨#[10]⟩ ++ ⟨#[32, 32]⟩ ++ A ++ ⟨#[10, 32, 32]⟩).size + Bl.size) = False := eq_false (by simp only [ByteArray.size_append, e1, e2, e3, e4]; omega)
        have r5 : (9223372036854775807 < (n ++ ⟨#[58, 32]⟩ ++ F ++ ⟨#[10]⟩ ++ ⟨#[32, 32]⟩ ++ A ++ ⟨#[10, 32, 32]⟩ ++ Bl).size + 2) = False := eq_false (by simp only [ByteArray.size_append, e1, e2, e3, e4]; omega)
        clear e1 e2 e3 e4 hA hH hHd hAl hHl hK hM hAs hHs' hMl hBs hKc hNx hxs hHs
        replace hSh := Lib.hid hSh; replace hWt := Lib.hid hWt; replace hRp := Lib.hid hRp
        replace hg1 := Lib.hid hg1
        replace hwc := hwc.out; replace hwm := hwm.out
        generalize (cnt x.data.toList : Int) = N at *
        go_wp2_with (first | (go_at_call 55; refine (hFE.out _ hb2').mono ?_; rintro e w3 ⟨rfl, hb⟩; replace hq2 := Lib.hid (hq2.out.below' hb); replace hb2' := hb2'.trans (hb.mono hb2'.size); replace kq := hq2.out.cell 0; simp at kq; clear hb; (try clear kl kc); obtain ⟨kl, kc⟩ := hCells.out _ hb2') | (go_at_call 56; refine (hLn.out _).mono ?_; rintro e w4 ⟨rfl, hb⟩; replace hq2 := Lib.hid (hq2.out.below' hb); replace hb2' := hb2'.trans (hb.mono hb2'.size); replace kq := hq2.out.cell 0; simp at kq; clear hb; (try clear kl kc); obtain ⟨kl, kc⟩ := hCells.out _ hb2') | (go_at_call 44; refine (hCn.out _).mono ?_; rintro e w5 ⟨rfl, hb⟩; replace hq2 := Lib.hid (hq2.out.below' hb); replace hb2' := hb2'.trans (hb.mono hb2'.size); replace kq := hq2.out.cell 0; simp at kq; clear hb; (try clear kl kc); obtain ⟨kl, kc⟩ := hCells.out _ hb2') | (go_at_call 57; refine (hSh.out _).mono ?_; rintro e w6 ⟨rfl, hb⟩; replace hq2 := Lib.hid (hq2.out.below' hb); replace hb2' := hb2'.trans (hb.mono hb2'.size); replace kq := hq2.out.cell 0; simp at kq; clear hb; (try clear kl kc); obtain ⟨kl, kc⟩ := hCells.out _ hb2') | (go_at_call 59; refine (hWt.out _ hb2').mono ?_; rintro e w7 ⟨rfl, hb⟩; replace hq2 := Lib.hid (hq2.out.below' hb); replace hb2' := hb2'.trans (hb.mono hb2'.size); replace kq := hq2.out.cell 0; simp at kq; clear hb; (try clear kl kc); obtain ⟨kl, kc⟩ := hCells.out _ hb2') | (go_at_call 58; refine (hRp.out _).mono ?_; rintro e w8 ⟨rfl, hb⟩; replace hq2 := Lib.hid (hq2.out.below' hb); replace hb2' := hb2'.trans (hb.mono hb2'.size); replace kq := hq2.out.cell 0; simp at kq; clear hb; (try clear kl kc); obtain ⟨kl, kc⟩ := hCells.out _ hb2'))
        go_ret
        exact ⟨by rw [hg1.out]; show Ending.returned (Value.string _) = _; rw [hfl.out], hb2'⟩
end Go.Proofs.YtdphhmigbbgjmaaDoor
end
section
namespace Go.Proofs.YtdphhmigbbgjmaaDoor
open Go.RowKit Go.Lib
attribute [local go_sem] byteAt_get wrap64_byteAt
set_option linter.unusedVariables false
set_option linter.unusedSimpArgs false
theorem word_Error (x : ByteArray) (v : Value) (w : World) :
    Calls Tryd.prog 208 #[.agg #[.string x, v]] w fun e w' => e = .returned (.string x) ∧ Below w.heap.size w w' := by
  have hq := (Blk.new w #[.string x, v] 59).cell 0
  simp at hq
  have hb0 := (Below.refl w.heap.size w).alloc (Nat.le_refl _) (.cells #[.string x, v] 59)
  go_enter Tryd.func208, Tryd.ntmps208
  go_wp2
  go_ret
  exact ⟨rfl, hb0⟩
theorem errS_Error (a : Nat) (x : ByteArray) (w : World) (h : w.cell? ⟨a, 0, none⟩ = some (.string x)) :
    Calls Tryd.prog 210 #[.pointer (some ⟨a, 0, none⟩)] w fun e w' => e = .returned (.string x) ∧ w' = w := by
  go_enter Tryd.func210, Tryd.ntmps210
  go_wp2
  go_ret
  exact ⟨rfl, rfl⟩
theorem errors_New (x : ByteArray) (w : World) :
    Calls Tryd.prog 30 #[.string x] w fun e w' => e = .returned (.iface 95 (.pointer (some ⟨w.heap.size, 0, none⟩))) ∧ w' = w.alloc (.cells #[.string x] 97) := by
  go_enter Tryd.func30, Tryd.ntmps30
  go_wp2
  go_ret
  exact ⟨rfl, rfl⟩
theorem fault_Error_nil (w : World) :
    Calls Tryd.prog 55 #[.pointer none] w fun e w' => e = .returned (.string ⟨#[]⟩) ∧ w' = w := by
  go_enter Tryd.func55, Tryd.ntmps55
  go_wp2
  go_ret
  exact ⟨rfl, rfl⟩
set_option maxRecDepth 100000 in
set_option maxHeartbeats 8000000 in
theorem report_Show_B (n s x0 : ByteArray) (b : Nat) (c a l col : Int) (w : World) (hn : n.size ≤ 1099511627776) (hs : s.size ≤ 1073741824) (hx0 : x0.size ≤ 1073741824) (hc : inI c) (hl : inI l) (hco : inI col) (hT : RepW w) (hB : Blk w b #[.int .i64 c, .int .i64 a, .int .i64 l, .int .i64 col] 52) :
    Calls Tryd.prog 29 #[.string n, .string s, .iface 59 (.agg #[.string x0, .iface 55 (.pointer (some ⟨b, 0, none⟩))])] w fun e w' => e = .returned (.string (showB n s c l col)) ∧ Below w.heap.size w w' := by
  have hlt := hB.lt
  have hzF := fltB_size c l col hc hl hco
  have hFE : ∀ W, Below w.heap.size w W → Calls Tryd.prog 55 #[.pointer (some ⟨b, 0, none⟩)] W fun e w' => e = .returned (.string (fltB c l col)) ∧ Below W.heap.size W w' := fun W h => fault_Error b c a l col hc hl hco W (hT.below h) (hB.below h hlt)
  have hCells : ∀ W, Below w.heap.size w W → W.cell? ⟨b, 2, none⟩ = some (.int .i64 l) ∧ W.cell? ⟨b, 3, none⟩ = some (.int .i64 col) := fun W h => by
    have k2 := (hB.below h hlt).cell 2; have k3 := (hB.below h hlt).cell 3
    simp at k2 k3; exact ⟨k2, k3⟩
  have hTe : ∀ W, Below w.heap.size w W → RepW W := fun W h => hT.below h
  have mE := m_ErrorW (.string x0) (.iface 55 (.pointer (some ⟨b, 0, none⟩)))
  have hWE := word_Error x0 (.iface 55 (.pointer (some ⟨b, 0, none⟩)))
  have u1 : (9223372036854775807 < n.size + 2 + x0.size) = False := eq_false (by omega)
  have u2 : (9223372036854775807 < n.size + 2 + x0.size + 1) = False := eq_false (by omega)
  have u1' : (9223372036854775807 < (n ++ ⟨#[58, 32]⟩).size + x0.size) = False := eq_false (by rw [ByteArray.size_append]; show ¬ (9223372036854775807 < n.size + 2 + x0.size); omega)
  have u2' : (9223372036854775807 < (n ++ ⟨#[58, 32]⟩ ++ x0).size + 1) = False := eq_false (by rw [ByteArray.size_append, ByteArray.size_append]; show ¬ (9223372036854775807 < n.size + 2 + x0.size + 1); omega)
  replace hWE := Lib.hid hWE
  have e2 : (⟨#[58, 32]⟩ : ByteArray).size = 2 := rfl
  have hfl := hedB_flt n c l col
  have hb0 := Below.refl w.heap.size w
  generalize hF : fltB c l col = F at *
  have q0 : (9223372036854775807 < n.size + 2) = False := eq_false (by omega)
  have q1 : (9223372036854775807 < n.size + 2 + F.size) = False := eq_false (by omega)
  have q2 : (9223372036854775807 < n.size + 2 + F.size + 1) = False := eq_false (by omega)
  have q1' : (9223372036854775807 < (n ++ ⟨#[58, 32]⟩).size + F.size) = False := eq_false (by rw [ByteArray.size_append, e2]; omega)
  have q2' : (9223372036854775807 < (n ++ ⟨#[58, 32]⟩ ++ F).size + 1) = False := eq_false (by rw [ByteArray.size_append, ByteArray.size_append, e2]; omega)
  clear hF e2
  obtain ⟨⟨x, is⟩, hx⟩ : ∃ p, lineT s.data.toList l = p := ⟨_, rfl⟩
  have hxs := lineT_size s l
  rw [hx] at hxs
  have hxs : x.size ≤ s.size := hxs
  have hNx := cnt_le x.data.toList
  rw [size_len] at hNx
  have hlw : wrap64 l = l := by unfold inI at hl; unfold wrap64; omega
  have hLn : ∀ W, Calls Tryd.prog 56 #[.string s, .int .i64 l] W fun e w' => e = .returned (.tuple #[.string x, .bool is]) ∧ Below W.heap.size W w' := fun W => by
    have := place_Line s l W (by omega) hlw
    rw [lineV_T, hx] at this; exact this
  have hCn : ∀ W, Calls Tryd.prog 44 #[.string x] W fun e w' => e = .returned (.int .i64 (cnt x.data.toList)) ∧ Below W.heap.size W w' := fun W => char_Count x W (by omega)
  have hfin : showB n s c l col = if is = true then (if col < 1 ∨ (cnt x.data.toList : Int) + 1 < col then hedB n c l col
    else hedB n c l col ++ ⟨#[32, 32]⟩ ++ ⟨(shN (cnt x.data.toList) x.data.toList).toArray⟩ ++ ⟨#[10, 32, 32]⟩ ++ blB (wid (ahN (col - 1).toNat x.data.toList)).toNat ++ ⟨#[94, 10]⟩) else hedB n c l col := by
    unfold showB; rw [hx]
  have hHs := hedB_size n c l col hc hl hco
  generalize showB n s c l col = R at *
  generalize hedB n c l col = Hd at *
  replace hfin := Lib.hid hfin; replace hLn := Lib.hid hLn; replace hCn := Lib.hid hCn
  clear hx hlw
  replace hFE := Lib.hid hFE; replace hCells := Lib.hid hCells; replace hTe := Lib.hid hTe; replace hfl := Lib.hid hfl
  have hBh := Lib.hid hB
  clear hT hB
  go_enter Tryd.func29, Tryd.ntmps29
  go_wp2_with (go_at_call 208; refine (hWE.out _).mono ?_; rintro e w1 ⟨rfl, hb⟩; replace hb0 := hb0.trans (hb.mono hb0.size); clear hb)
  clear mE u1 u2 u1' u2' hWE
  have hq0 := Blk.new w1 #[.pointer none] 55
  have hbA := hb0.alloc hb0.size (.cells #[.pointer none] 55)
  refine (as_hold' x0 (some ⟨b, 0, none⟩) w1.heap.size _ (hTe.out _ hbA).e hq0).mono ?_
  rintro e w2 ⟨rfl, hq2, hb2⟩
  replace hq2 := Lib.hid hq2
  have hb2' : Below w.heap.size w w2 := hbA.trans (hb2.mono hb0.size)
  clear hbA hq0 hb2
  have kq := hq2.out.cell 0
  have hwq : w.heap.size ≤ w1.heap.size := hb0.size
  generalize w1.heap.size = q at *
  simp at kq
  clear hb0
  cases is with
  | false =>
    have hR : Hid (R = Hd) := Lib.hid (by rw [hfin.out, if_neg (by decide)])
    clear hfin
    go_wp2_with (first | (go_at_call 55; refine (hFE.out _ hb2').mono ?_; rintro e w3 ⟨rfl, hb⟩; replace hq2 := Lib.hid (hq2.out.below' hb); replace hb2' := hb2'.trans (hb.mono hb2'.size); replace kq := hq2.out.cell 0; simp at kq; clear hb; (try clear kl kc); obtain ⟨kl, kc⟩ := hCells.out _ hb2') | (go_at_call 56; refine (hLn.out _).mono ?_; rintro e w4 ⟨rfl, hb⟩; replace hq2 := Lib.hid (hq2.out.below' hb); replace hb2' := hb2'.trans (hb.mono hb2'.size); replace kq := hq2.out.cell 0; simp at kq; clear hb; (try clear kl kc); obtain ⟨kl, kc⟩ := hCells.out _ hb2') | (go_at_call 44; refine (hCn.out _).mono ?_; rintro e w5 ⟨rfl, hb⟩; replace hq2 := Lib.hid (hq2.out.below' hb); replace hb2' := hb2'.trans (hb.mono hb2'.size); replace kq := hq2.out.cell 0; simp at kq; clear hb; (try clear kl kc); obtain ⟨kl, kc⟩ := hCells.out _ hb2'))
    go_ret
    exact ⟨by rw [hR.out]; show Ending.returned (Value.string _) = _; rw [hfl.out], hb2'⟩
  | true =>
    have hfin := Lib.hid (hfin.out.trans (if_pos rfl))
    by_cases h1 : col < 1
    · have hR : Hid (R = Hd) := Lib.hid (by rw [hfin.out, if_pos (.inl h1)])
      clear hfin
      go_wp2_with (first | (go_at_call 55; refine (hFE.out _ hb2').mono ?_; rintro e w3 ⟨rfl, hb⟩; replace hq2 := Lib.hid (hq2.out.below' hb); replace hb2' := hb2'.trans (hb.mono hb2'.size); replace kq := hq2.out.cell 0; simp at kq; clear hb; (try clear kl kc); obtain ⟨kl, kc⟩ := hCells.out _ hb2') | (go_at_call 56; refine (hLn.out _).mono ?_; rintro e w4 ⟨rfl, hb⟩; replace hq2 := Lib.hid (hq2.out.below' hb); replace hb2' := hb2'.trans (hb.mono hb2'.size); replace kq := hq2.out.cell 0; simp at kq; clear hb; (try clear kl kc); obtain ⟨kl, kc⟩ := hCells.out _ hb2') | (go_at_call 44; refine (hCn.out _).mono ?_; rintro e w5 ⟨rfl, hb⟩; replace hq2 := Lib.hid (hq2.out.below' hb); replace hb2' := hb2'.trans (hb.mono hb2'.size); replace kq := hq2.out.cell 0; simp at kq; clear hb; (try clear kl kc); obtain ⟨kl, kc⟩ := hCells.out _ hb2'))
      go_ret
      exact ⟨by rw [hR.out]; show Ending.returned (Value.string _) = _; rw [hfl.out], hb2'⟩
    · have hwc : Hid (wrap64 ((cnt x.data.toList : Int) + 1) = (cnt x.data.toList : Int) + 1) := Lib.hid (by unfold wrap64; omega)
      by_cases h2 : (cnt x.data.toList : Int) + 1 < col
      · have hR : Hid (R = Hd) := Lib.hid (by rw [hfin.out, if_pos (.inr h2)])
        clear hfin
        replace hwc := hwc.out
        generalize (cnt x.data.toList : Int) = N at *
        go_wp2_with (first | (go_at_call 55; refine (hFE.out _ hb2').mono ?_; rintro e w3 ⟨rfl, hb⟩; replace hq2 := Lib.hid (hq2.out.below' hb); replace hb2' := hb2'.trans (hb.mono hb2'.size); replace kq := hq2.out.cell 0; simp at kq; clear hb; (try clear kl kc); obtain ⟨kl, kc⟩ := hCells.out _ hb2') | (go_at_call 56; refine (hLn.out _).mono ?_; rintro e w4 ⟨rfl, hb⟩; replace hq2 := Lib.hid (hq2.out.below' hb); replace hb2' := hb2'.trans (hb.mono hb2'.size); replace kq := hq2.out.cell 0; simp at kq; clear hb; (try clear kl kc); obtain ⟨kl, kc⟩ := hCells.out _ hb2') | (go_at_call 44; refine (hCn.out _).mono ?_; rintro e w5 ⟨rfl, hb⟩; replace hq2 := Lib.hid (hq2.out.below' hb); replace hb2' := hb2'.trans (hb.mono hb2'.size); replace kq := hq2.out.cell 0; simp at kq; clear hb; (try clear kl kc); obtain ⟨kl, kc⟩ := hCells.out _ hb2'))
        go_ret
        exact ⟨by rw [hR.out]; show Ending.returned (Value.string _) = _; rw [hfl.out], hb2'⟩
      · have hg1 := hfin.out.trans (if_neg (not_or.2 ⟨h1, h2⟩))
        clear hfin
        obtain ⟨K, hK⟩ : ∃ K : Nat, col - 1 = (K : Int) := ⟨(col - 1).toNat, by have := Int.not_lt.1 h1; exact (Int.toNat_of_nonneg (Int.sub_nonneg.2 this)).symm⟩
        have hKc : K ≤ cnt x.data.toList := by have := Int.not_lt.1 h2; omega
        have hwm : Hid (wrap64 (col - 1) = (K : Int)) := Lib.hid (by rw [hK]; unfold wrap64; omega)
        rw [hK, Int.toNat_natCast] at hg1
        have hSh := fun W => report_shown x K W (by omega) (by omega)
        have hAl := shN_len (cnt x.data.toList) x.data.toList
        have hHl : (ahN K x.data.toList).length ≤ 4 * K := by
          unfold ahN
          rw [if_pos hKc]; exact shN_len _ _
        obtain ⟨A, hA⟩ : ∃ A : ByteArray, (⟨(shN (cnt x.data.toList) x.data.toList).toArray⟩ : ByteArray) = A := ⟨_, rfl⟩
        obtain ⟨H, hH⟩ : ∃ H : ByteArray, (⟨(ahN K x.data.toList).toArray⟩ : ByteArray) = H := ⟨_, rfl⟩
        have hHd : ahN K x.data.toList = H.data.toList := by rw [← hH]
        have hAs : A.size ≤ 4 * cnt x.data.toList := by rw [← hA]; show (List.toArray _).size ≤ _; simpa using hAl
        have hHs' : H.data.toList.length ≤ 4 * K := by rw [← hHd]; exact hHl
        rw [hHd] at hg1
        rw [hA] at hg1
        rw [hA, hH] at hSh
        have hWt : ∀ W, Below w.heap.size w W → Calls Tryd.prog 59 #[.string H] W fun e w' => e = .returned (.int .i64 (wid H.data.toList)) ∧ Below W.heap.size W w' := fun W h => width_Text H W (by rw [← size_len]; omega) (hTe.out W h).t
        obtain ⟨M, hM⟩ : ∃ M : Nat, wid H.data.toList = (M : Int) := ⟨(wid H.data.toList).toNat, (Int.toNat_of_nonneg (wid_le _).1).symm⟩
        have hMl : M ≤ 8 * K := by have := (wid_le H.data.toList).2; omega
        rw [hM, Int.toNat_natCast] at hg1
        simp only [hM] at hWt
        have hRp : ∀ W, Calls Tryd.prog 58 #[.string ⟨#[32]⟩, .int .i64 M] W fun e w' => e = .returned (.string (blB M)) ∧ Below W.heap.size W w' := fun W => Tryd.strings_Repeat ⟨#[32]⟩ M W (by omega) (by show 1 * M ≤ _; omega)
        have hBs : (blB M).size = M := by unfold blB; show (List.toArray _).size = _; rw [List.size_toArray, Lib.repeatL_length]; simp
        generalize blB M = Bl at *
        have e2 : (⟨#[32, 32]⟩ : ByteArray).size = 2 := rfl
        have e3 : (⟨#[10, 32, 32]⟩ : ByteArray).size = 3 := rfl
        have e1 : (⟨#[10]⟩ : ByteArray).size = 1 := rfl
        have e4 : (⟨#[58, 32]⟩ : ByteArray).size = 2 := rfl
        have q1 : (9223372036854775807 < n.size + 2 + F.size + 1 + 2) = False := eq_false (by omega)
        have q2 : (9223372036854775807 < n.size + 2 + F.size + 1 + 2 + A.size) = False := eq_false (by omega)
        have q3 : (9223372036854775807 < n.size + 2 + F.size + 1 + 2 + A.size + 3) = False := eq_false (by omega)
        have q4 : (9223372036854775807 < n.size + 2 + F.size + 1 + 2 + A.size + 3 + Bl.size) = False := eq_false (by omega)
        have q5 : (9223372036854775807 < n.size + 2 + F.size + 1 + 2 + A.size + 3 + Bl.size + 2) = False := eq_false (by omega)
        have r1 : (9223372036854775807 < (n ++ ⟨#[58, 32]⟩ ++ F ++ ⟨#[10]⟩).size + 2) = False := eq_false (by simp only [ByteArray.size_append, e1, e4]; omega)
        have r2 : (9223372036854775807 < (n ++ ⟨#[58, 32]⟩ ++ F ++ ⟨#[10]⟩ ++ ⟨#[32, 32]⟩).size + A.size) = False := eq_false (by simp only [ByteArray.size_append, e1, e2, e4]; omega)
        have r3 : (9223372036854775807 < (n ++ ⟨#[58, 32]⟩ ++ F ++ ⟨#[10]⟩ ++ ⟨#[32, 32]⟩ ++ A).size + 3) = False := eq_false (by simp only [ByteArray.size_append, e1, e2, e4]; omega)
        have r4 : (9223372036854775807 < (n ++ ⟨#[58, 32]⟩ ++ F ++ ⟨#[10]⟩ ++ ⟨#[32, 32]⟩ ++ A ++ ⟨#[10, 32, 32]⟩).size + Bl.size) = False := eq_false (by simp only [ByteArray.size_append, e1, e2, e3, e4]; omega)
        have r5 : (9223372036854775807 < (n ++ ⟨#[58, 32]⟩ ++ F ++ ⟨#[10]⟩ ++ ⟨#[32, 32]⟩ ++ A ++ ⟨#[10, 32, 32]⟩ ++ Bl).size + 2) = False := eq_false (by simp only [ByteArray.size_append, e1, e2, e3, e4]; omega)
        clear e1 e2 e3 e4 hA hH hHd hAl hHl hK hM hAs hHs' hMl hBs hKc hNx hxs hHs
        replace hSh := Lib.hid hSh; replace hWt := Lib.hid hWt; replace hRp := Lib.hid hRp
        replace hg1 := Lib.hid hg1
        replace hwc := hwc.out; replace hwm := hwm.out
        generalize (cnt x.data.toList : Int) = N at *
        go_wp2_with (first | (go_at_call 55; refine (hFE.out _ hb2').mono ?_; rintro e w3 ⟨rfl, hb⟩; replace hq2 := Lib.hid (hq2.out.below' hb); replace hb2' := hb2'.trans (hb.mono hb2'.size); replace kq := hq2.out.cell 0; simp at kq; clear hb; (try clear kl kc); obtain ⟨kl, kc⟩ := hCells.out _ hb2') | (go_at_call 56; refine (hLn.out _).mono ?_; rintro e w4 ⟨rfl, hb⟩; replace hq2 := Lib.hid (hq2.out.below' hb); replace hb2' := hb2'.trans (hb.mono hb2'.size); replace kq := hq2.out.cell 0; simp at kq; clear hb; (try clear kl kc); obtain ⟨kl, kc⟩ := hCells.out _ hb2') | (go_at_call 44; refine (hCn.out _).mono ?_; rintro e w5 ⟨rfl, hb⟩; replace hq2 := Lib.hid (hq2.out.below' hb); replace hb2' := hb2'.trans (hb.mono hb2'.size); replace kq := hq2.out.cell 0; simp at kq; clear hb; (try clear kl kc); obtain ⟨kl, kc⟩ := hCells.out _ hb2') | (go_at_call 57; refine (hSh.out _).mono ?_; rintro e w6 ⟨rfl, hb⟩; replace hq2 := Lib.hid (hq2.out.below' hb); replace hb2' := hb2'.trans (hb.mono hb2'.size); replace kq := hq2.out.cell 0; simp at kq; clear hb; (try clear kl kc); obtain ⟨kl, kc⟩ := hCells.out _ hb2') | (go_at_call 59; refine (hWt.out _ hb2').mono ?_; rintro e w7 ⟨rfl, hb⟩; replace hq2 := Lib.hid (hq2.out.below' hb); replace hb2' := hb2'.trans (hb.mono hb2'.size); replace kq := hq2.out.cell 0; simp at kq; clear hb; (try clear kl kc); obtain ⟨kl, kc⟩ := hCells.out _ hb2') | (go_at_call 58; refine (hRp.out _).mono ?_; rintro e w8 ⟨rfl, hb⟩; replace hq2 := Lib.hid (hq2.out.below' hb); replace hb2' := hb2'.trans (hb.mono hb2'.size); replace kq := hq2.out.cell 0; simp at kq; clear hb; (try clear kl kc); obtain ⟨kl, kc⟩ := hCells.out _ hb2'))
        go_ret
        exact ⟨by rw [hg1.out]; show Ending.returned (Value.string _) = _; rw [hfl.out], hb2'⟩
end Go.Proofs.YtdphhmigbbgjmaaDoor
end
section
namespace Go.Proofs.YtdphhmigbbgjmaaDoor
open Go.RowKit Go.Lib
attribute [local go_sem] byteAt_get wrap64_byteAt
set_option linter.unusedVariables false
set_option linter.unusedSimpArgs false
set_option maxRecDepth 100000 in
set_option maxHeartbeats 8000000 in
theorem report_Show_C (n s : ByteArray) (x0 : ByteArray) (a : Nat) (w : World) (hn : n.size ≤ 1099511627776) (hx0 : x0.size ≤ 1073741824) (hA : w.cell? ⟨a, 0, none⟩ = some (.string x0)) (hT : RepW w) :
    Calls Tryd.prog 29 #[.string n, .string s, .iface 95 (.pointer (some ⟨a, 0, none⟩))] w fun e w' => e = .returned (.string (n ++ ⟨#[58, 32]⟩ ++ x0 ++ ⟨#[10]⟩)) ∧ Below w.heap.size w w' := by
  have hb0 := Below.refl w.heap.size w
  have hTe : ∀ W, Below w.heap.size w W → RepW W := fun W h => hT.below h
  have mE := m_ErrorE (some ⟨a, 0, none⟩)
  have hSE := errS_Error a x0 w hA
  have q0 : (9223372036854775807 < n.size + 2) = False := eq_false (by omega)
  have u1 : (9223372036854775807 < n.size + 2 + x0.size) = False := eq_false (by omega)
  have u2 : (9223372036854775807 < n.size + 2 + x0.size + 1) = False := eq_false (by omega)
  have u1' : (9223372036854775807 < (n ++ ⟨#[58, 32]⟩).size + x0.size) = False := eq_false (by rw [ByteArray.size_append]; show ¬ (9223372036854775807 < n.size + 2 + x0.size); omega)
  have u2' : (9223372036854775807 < (n ++ ⟨#[58, 32]⟩ ++ x0).size + 1) = False := eq_false (by rw [ByteArray.size_append, ByteArray.size_append]; show ¬ (9223372036854775807 < n.size + 2 + x0.size + 1); omega)
  replace hTe := Lib.hid hTe
  clear hT
  go_enter Tryd.func29, Tryd.ntmps29
  go_wp2_with (go_at_call 210; refine hSE.mono ?_; rintro e w1 ⟨rfl, hw⟩; rw [hw]; clear hw)
  have hq0 := Blk.new w #[.pointer none] 55
  have hbA := hb0.alloc hb0.size (.cells #[.pointer none] 55)
  refine (as_miss' ⟨a, 0, none⟩ w.heap.size _ (hTe.out _ hbA).e hq0).mono ?_
  rintro e w2 ⟨rfl, hq2, hb2⟩
  have hb2' : Below w.heap.size w w2 := hbA.trans (hb2.mono (by simp))
  have kq := hq2.cell 0
  simp at kq
  clear hb2 hbA hq0 hb0
  go_wp2
  go_ret
  exact ⟨rfl, hb2'⟩
set_option maxRecDepth 100000 in
set_option maxHeartbeats 8000000 in
theorem report_Show_D (n s : ByteArray) (x0 : ByteArray) (a : Nat) (w : World) (hn : n.size ≤ 1099511627776) (hx0 : x0.size ≤ 1073741824) (hT : RepW w) :
    Calls Tryd.prog 29 #[.string n, .string s, .iface 59 (.agg #[.string x0, .iface 95 (.pointer (some ⟨a, 0, none⟩))])] w fun e w' => e = .returned (.string (n ++ ⟨#[58, 32]⟩ ++ x0 ++ ⟨#[10]⟩)) ∧ Below w.heap.size w w' := by
  have hb0 := Below.refl w.heap.size w
  have hTe : ∀ W, Below w.heap.size w W → RepW W := fun W h => hT.below h
  have mE := m_ErrorW (.string x0) (.iface 95 (.pointer (some ⟨a, 0, none⟩)))
  have hWE := Lib.hid (word_Error x0 (.iface 95 (.pointer (some ⟨a, 0, none⟩))))
  have q0 : (9223372036854775807 < n.size + 2) = False := eq_false (by omega)
  have u1 : (9223372036854775807 < n.size + 2 + x0.size) = False := eq_false (by omega)
  have u2 : (9223372036854775807 < n.size + 2 + x0.size + 1) = False := eq_false (by omega)
  have u1' : (9223372036854775807 < (n ++ ⟨#[58, 32]⟩).size + x0.size) = False := eq_false (by rw [ByteArray.size_append]; show ¬ (9223372036854775807 < n.size + 2 + x0.size); omega)
  have u2' : (9223372036854775807 < (n ++ ⟨#[58, 32]⟩ ++ x0).size + 1) = False := eq_false (by rw [ByteArray.size_append, ByteArray.size_append]; show ¬ (9223372036854775807 < n.size + 2 + x0.size + 1); omega)
  replace hTe := Lib.hid hTe
  clear hT
  go_enter Tryd.func29, Tryd.ntmps29
  go_wp2_with (go_at_call 208; refine (hWE.out _).mono ?_; rintro e w1 ⟨rfl, hb⟩; replace hb0 := hb0.trans (hb.mono hb0.size); clear hb)
  have hq0 := Blk.new w1 #[.pointer none] 55
  have hbA := hb0.alloc hb0.size (.cells #[.pointer none] 55)
  refine (as_holdmiss' x0 ⟨a, 0, none⟩ w1.heap.size _ (hTe.out _ hbA).e hq0).mono ?_
  rintro e w2 ⟨rfl, hq2, hb2⟩
  have hb2' : Below w.heap.size w w2 := hbA.trans (hb2.mono (by have := hb0.size; simp; omega))
  have kq := hq2.cell 0
  simp at kq
  clear hb2 hbA hq0 hb0
  go_wp2
  go_ret
  exact ⟨rfl, hb2'⟩
set_option maxRecDepth 100000 in
set_option maxHeartbeats 8000000 in
theorem report_Show_E (n s : ByteArray)  (w : World) (hn : n.size ≤ 1099511627776)  (hT : RepW w) :
    Calls Tryd.prog 29 #[.string n, .string s, .iface 55 (.pointer none)] w fun e w' => e = .returned (.string (n ++ ⟨#[58, 32]⟩ ++ ⟨#[]⟩ ++ ⟨#[10]⟩)) ∧ Below w.heap.size w w' := by
  have hb0 := Below.refl w.heap.size w
  have hTe : ∀ W, Below w.heap.size w W → RepW W := fun W h => hT.below h
  have mE := m_Error1 none
  have hSE := fault_Error_nil w
  have q0 : (9223372036854775807 < n.size + 2) = False := eq_false (by omega)
  have u1 : (9223372036854775807 < n.size + 2 + 0) = False := eq_false (by omega)
  have u2 : (9223372036854775807 < n.size + 2 + 0 + 1) = False := eq_false (by omega)
  have u1' : (9223372036854775807 < (n ++ ⟨#[58, 32]⟩).size + 0) = False := eq_false (by rw [ByteArray.size_append]; show ¬ (9223372036854775807 < n.size + 2 + 0); omega)
  have u2' : (9223372036854775807 < (n ++ ⟨#[58, 32]⟩ ++ ⟨#[]⟩).size + 1) = False := eq_false (by rw [ByteArray.size_append, ByteArray.size_append]; show ¬ (9223372036854775807 < n.size + 2 + 0 + 1); omega)
  replace hTe := Lib.hid hTe
  clear hT
  go_enter Tryd.func29, Tryd.ntmps29
  go_wp2_with (go_at_call 55; refine hSE.mono ?_; rintro e w1 ⟨rfl, hw⟩; rw [hw]; clear hw)
  have hq0 := Blk.new w #[.pointer none] 55
  have hbA := hb0.alloc hb0.size (.cells #[.pointer none] 55)
  refine (as_hit' none w.heap.size _ (hTe.out _ hbA).e hq0).mono ?_
  rintro e w2 ⟨rfl, hq2, hb2⟩
  have hb2' : Below w.heap.size w w2 := hbA.trans (hb2.mono (Nat.le_refl _))
  have kq := hq2.cell 0
  simp at kq
  clear hb2 hbA hq0 hb0
  go_wp2
  go_ret
  exact ⟨rfl, hb2'⟩
theorem report_Show_F (n s : ByteArray) (w : World) :
    Calls Tryd.prog 29 #[.string n, .string s, .nilIface] w fun e w' => e = .returned (.string ⟨#[]⟩) ∧ w' = w := by
  go_enter Tryd.func29, Tryd.ntmps29
  go_wp2
  go_ret
  exact ⟨rfl, rfl⟩
end Go.Proofs.YtdphhmigbbgjmaaDoor
end
