/- The reference's Advance (package colophonref03) tells the place behind a text. Conditions: the text has at most 2^44 bytes; line and column are numbers of 64 bits. -/
import Derived.Test.YtgjlpkocieffeaaRef01P
import Derived.Test.YtgjlpkocieffeaaPos
namespace Go.Proofs.Ytgjlpkocieffeaa
open Go.RowKit Go.Lib

set_option maxHeartbeats 1000000 in
theorem r3_Advance (a l c : Int) (s : ByteArray) (w : World) (hs : s.size * 8 ≤ 140737488351232) (hl : wrap64 l = l) (hc : wrap64 c = c) :
    Calls Try.prog 13 #[.agg #[.int .i64 a, .int .i64 l, .int .i64 c], .string s] w fun e w' => e = .returned (advV a l c s) ∧ Below w.heap.size w w' := by
  have hl := Lib.hid hl
  have hc := Lib.hid hc
  go_enter Try.func13, Try.ntmps13
  go_wp2
  go_loopw [5, 6] (fun f i wr => ∃ (k : Nat) (L C : Int), k ≤ s.size ∧ i = .int .i64 k ∧ f = .int .i64 (fromAt s k) ∧ Hid (L = wrap64 (l + nlAt s k)) ∧ Hid (C = colI (nlAt s k) c) ∧ wr = (w.alloc (.cells #[.int .i64 (wrap64 (a + s.size)), .int .i64 L, .int .i64 C] 24)).alloc (.cells #[.int .i64 0, .int .i64 0, .int .i64 0] 24)) (fun _ i _ => s.size - (intOf i).toNat)
  case atStart => exact ⟨0, l, c, Nat.zero_le _, rfl, rfl, by unfold nlAt; simp [hl.out, Hid], by unfold nlAt colI; simp [Hid], rfl⟩
  case round =>
    obtain ⟨k, L, C, hk, rfl, rfl, hL, hC, rfl⟩ := hrel
    have hb0 := byteAt_lt s k
    have hfr := fromAt_le s k
    by_cases hlt : k < s.size
    · by_cases hnl : byteAt s k = 10
      · have e1 : Hid (fromAt s (k + 1) = k + 1) := by unfold fromAt; rw [if_pos hnl]; exact Lib.hid rfl
        have e2 : Hid (nlAt s (k + 1) = nlAt s k + 1) := by show nlAt s (k + 1) = _; rw [nlAt, if_pos hnl]
        have hnl2 : ((byteAt s k : Int) == 10) = true := by simp [hnl]
        clear hnl
        go_wp2
        go_roundw
        case rel => exact ⟨k + 1, _, _, by omega, by go_num, by rw [e1.out]; go_num, by rw [e2.out, hL.out, wrap64_add]; show _ = _; congr 1; omega, by rw [e2.out]; rfl, rfl⟩
        case measure => simp [intOf]; omega
      · have e1 : Hid (fromAt s (k + 1) = fromAt s k) := by show fromAt s (k + 1) = _; rw [fromAt, if_neg hnl]
        have e2 : Hid (nlAt s (k + 1) = nlAt s k) := by show nlAt s (k + 1) = _; rw [nlAt, if_neg hnl]
        have hnl2 : ((byteAt s k : Int) == 10) = false := by simp; omega
        go_wp2
        go_roundw
        case rel => exact ⟨k + 1, _, _, by omega, by go_num, by rw [e1.out], by rw [e2.out]; exact hL, by rw [e2.out]; exact hC, rfl⟩
        case measure => simp [intOf]; omega
    · obtain rfl : k = s.size := by omega
      go_wp2
      have hx : (s.extract (fromAt s s.size) s.size).size * 8 ≤ 140737488351232 := by simp; omega
      have hB : Blk ((w.alloc (.cells #[.int .i64 (wrap64 (a + s.size)), .int .i64 L, .int .i64 C] 24)).alloc (.cells #[.int .i64 0, .int .i64 0, .int .i64 0] 24)) w.heap.size #[.int .i64 (wrap64 (a + s.size)), .int .i64 L, .int .i64 C] 24 := (Blk.new _ _ _).alloc _
      have hR : Blk ((w.alloc (.cells #[.int .i64 (wrap64 (a + s.size)), .int .i64 L, .int .i64 C] 24)).alloc (.cells #[.int .i64 0, .int .i64 0, .int .i64 0] 24)) (w.heap.size + 1) #[.int .i64 0, .int .i64 0, .int .i64 0] 24 := by have := Blk.new (w.alloc (.cells #[.int .i64 (wrap64 (a + s.size)), .int .i64 L, .int .i64 C] 24)) #[.int .i64 0, .int .i64 0, .int .i64 0] 24; rwa [World.size_alloc] at this
      have h0 : Below w.heap.size w ((w.alloc (.cells #[.int .i64 (wrap64 (a + s.size)), .int .i64 L, .int .i64 C] 24)).alloc (.cells #[.int .i64 0, .int .i64 0, .int .i64 0] 24)) := ((Below.refl _ _).alloc (Nat.le_refl _) _).alloc (by simp) _
      obtain ⟨W, hW⟩ : ∃ W, (w.alloc (.cells #[.int .i64 (wrap64 (a + s.size)), .int .i64 L, .int .i64 C] 24)).alloc (.cells #[.int .i64 0, .int .i64 0, .int .i64 0] 24) = W := ⟨_, rfl⟩
      rw [hW] at hB hR h0 ⊢
      clear hW
      have k0 := hB.cell 0; have k1 := hB.cell 1; have k2 := hB.cell 2; have kf := hB.frozen 2
      simp at k0 k1 k2
      have fin : Hid (advV a l c s = .agg #[.int .i64 (wrap64 (a + s.size)), .int .i64 L, .int .i64 (wrap64 (C + ↑(cnt (List.take (s.size - fromAt s s.size) (List.drop (fromAt s s.size) s.data.toList)))))]) := by
        rw [hL.out, hC.out]; unfold advV tailC; rw [List.take_of_length_le (by rw [List.length_drop, size_len]; exact Nat.le_refl _)]; rfl
      go_region_with (first | (go_at_call 23; refine (r1_Count _ _ hx).mono ?_; rintro e w1 ⟨rfl, hb⟩; replace hB := hB.drew.below' hb; replace hR := hR.drew.below' hb; replace h0 := h0.drew.trans (hb.mono h0.size); replace k0 := hB.cell 0; replace k1 := hB.cell 1; replace k2 := hB.cell 2; replace kf := hB.frozen 2; simp at k0 k1 k2))
      all_goals
        have r0 := hR.cell 0; have r1 := hR.cell 1; have r2 := hR.cell 2; have rf := hR.frozen 0; have rf1 := hR.frozen 1; have rf2 := hR.frozen 2
        simp at r0 r1 r2
        go_wp2
      all_goals
        refine bodyPost_ret (v := .agg #[.int .i64 (wrap64 (a + s.size)), .int .i64 L, .int .i64 (wrap64 (C + ↑(cnt (List.take (s.size - fromAt s s.size) (List.drop (fromAt s s.size) s.data.toList)))))]) ?_ rfl ⟨by rw [fin.out], ?_⟩
        · have hF := (((hR.other ⟨w.heap.size, 2, none⟩ (.int .i64 (wrap64 (C + ↑(cnt (List.take (s.size - fromAt s s.size) (List.drop (fromAt s s.size) s.data.toList)))))) (by simp)).set 0 (.int .i64 (wrap64 (a + s.size)))).set 1 (.int .i64 L)).set 2 (.int .i64 (wrap64 (C + ↑(cnt (List.take (s.size - fromAt s s.size) (List.drop (fromAt s s.size) s.data.toList))))))
          have q0 := hF.cell 0; have q1 := hF.cell 1; have q2 := hF.cell 2
          simp at q0 q1 q2
          simp [results, Try.results13, go_sem, q0, q1, q2]
        · exact (((h0.setCell (p := ⟨w.heap.size, 2, none⟩) (by simp) _).setCell (p := ⟨w.heap.size + 1, 0, none⟩) (by simp) _).setCell (p := ⟨w.heap.size + 1, 1, none⟩) (by simp) _).setCell (p := ⟨w.heap.size + 1, 2, none⟩) (by simp) _

end Go.Proofs.Ytgjlpkocieffeaa
