/- colophonlaw03.PlaceLines returns true, for every text and number (the walk). No condition but that the number is of 64 bits. -/
import Derived.Test.YtgjlpkocieffeaaLaw03A
import Derived.Test.YtgjlpkocieffeaaGlue
import Derived.Test.YtgjlpkocieffeaaBytes
namespace Go.Proofs.Ytgjlpkocieffeaa
open Go.RowKit Go.Lib
set_option maxHeartbeats 2000000 in
theorem law_Lines (s : ByteArray) (m : Int) (w : World) (hm : wrap64 m = m) :
    Calls Try.prog 6 #[.string s, .int .i64 m] w fun e w' => e = .returned (.bool true) ∧ Below w.heap.size w w' := by
  have hm := Lib.hid hm
  by_cases hs : (268435455 : Int) < s.size
  · go_enter Try.func6, Try.ntmps6
    go_wp2
    go_ret
    exact ⟨rfl, Below.refl _ _⟩
  by_cases hs2 : (4000 : Int) < s.size
  · go_enter Try.func6, Try.ntmps6
    go_wp2
    go_ret
    exact ⟨rfl, Below.refl _ _⟩
  have hN := Lib.hid (lines_nlAt s)
  have hNle := nlAt_le s s.size
  go_enter Try.func6, Try.ntmps6
  go_wp2
  go_loop [6, 7] (fun n i => ∃ k : Nat, k ≤ s.size ∧ i = .int .i64 k ∧ n = .int .i64 (nlAt s k + 1 : Nat)) (fun _ i => s.size - (RowKit.intOf i).toNat)
  case atStart => exact ⟨0, Nat.zero_le _, rfl, rfl⟩
  case round =>
    obtain ⟨k, hk, rfl, rfl⟩ := hrel
    have hb0 := byteAt_lt s k
    have hnk := nlAt_le s k
    by_cases hlt : k < s.size
    · by_cases h10 : byteAt s k = 10
      · have e2 : Hid (nlAt s (k + 1) = nlAt s k + 1) := by show nlAt s (k + 1) = _; rw [nlAt, if_pos h10]
        have hx : ((byteAt s k : Int) == 10) = true := by simp [h10]
        clear h10
        go_wp2
        go_round
        case rel => exact ⟨k + 1, by omega, by go_num, by rw [e2.out]; go_num⟩
        case measure => simp [RowKit.intOf]; omega
      · have e2 : Hid (nlAt s (k + 1) = nlAt s k) := by show nlAt s (k + 1) = _; rw [nlAt, if_neg h10]
        have hx : ((byteAt s k : Int) == 10) = false := by simp; omega
        go_wp2
        go_round
        case rel => exact ⟨k + 1, by omega, by go_num, by rw [e2.out]⟩
        case measure => simp [RowKit.intOf]; omega
    · obtain rfl : k = s.size := by omega
      obtain ⟨N, hNN⟩ : ∃ N, N = nlAt s s.size + 1 := ⟨_, rfl⟩
      rw [← hNN]
      have hlen : Hid ((linesOf s.data.toList).length = N) := by rw [hN.out, hNN]; exact Lib.hid rfl
      have hNs : N ≤ 4001 := by omega
      have hN1 : 1 ≤ N := by omega
      clear hNN hNle hnk
      go_wp2
      go_loopw [5, 8] (fun v i wr => ∃ k : Nat, 1 ≤ k ∧ k ≤ N + 1 ∧ i = .int .i64 k ∧ Buf wr w.heap.size v (glue ((linesOf s.data.toList).take (k - 1))) ∧ Below w.heap.size w wr) (fun _ i _ => N + 1 - (RowKit.intOf i).toNat)
      case atStart => exact ⟨1, by omega, by omega, rfl, Buf.nil _ _, Below.refl _ _⟩
      case round =>
        obtain ⟨k, hk1, hk2, rfl, hbuf, hb⟩ := hrel
        have hbs := hb.size
        by_cases hkn : k ≤ N
        · have hkl : k - 1 < (linesOf s.data.toList).length := by rw [hlen.out]; omega
          have hv := Lib.hid (lineV_some s.data.toList (k - 1) hkl)
          obtain ⟨x, hx⟩ : ∃ x : ByteArray, x = ⟨((linesOf s.data.toList)[k - 1]'hkl).toArray⟩ := ⟨_, rfl⟩
          have hP : ∀ W, Calls Try.prog 10 #[.string s, .int .i64 k] W fun e w' => e = .returned (.tuple #[.string x, .bool true]) ∧ Below W.heap.size W w' := fun W => by
            rw [hx, ← hv.out, show k - 1 + 1 = k by omega]; exact place_Line s k W (by omega) (by unfold wrap64; omega)
          have hP := Lib.hid hP
          have hxl : x.data.toList = (linesOf s.data.toList)[k - 1]'hkl := by rw [hx]
          have hxs : x.data.toList.length ≤ s.size ∧ (glue ((linesOf s.data.toList).take (k - 1))).length ≤ s.size := by
            have e1 := glue_len_mem (linesOf s.data.toList) _ (List.getElem_mem hkl)
            have e2 := glue_len_take (linesOf s.data.toList) (k - 1)
            rw [glue_lines, size_len] at e1 e2
            rw [hxl]; exact ⟨e1, e2⟩
          obtain ⟨hx1, hx2⟩ := hxs
          rw [size_len] at hx1
          have hxl' := Lib.hid hxl
          clear hx hxl
          by_cases h1 : k = 1
          · subst h1
            have hb' : Buf wr w.heap.size _ [] := hbuf
            have e1 : Hid (glue ((linesOf s.data.toList).take 1) = x.data.toList) := by rw [hxl'.out]; exact Lib.hid (glue_one _ (by omega))
            go_wp2_with fail
            refine (hP.out _).mono ?_
            rintro e w1 ⟨rfl, hq⟩
            have hb1 := hb'.below hq
            have hbb := hb.trans (hq.mono hb.size)
            have hz := hbb.size
            go_wp2_with (at_builtin; refine app_str rfl _ _ rfl w.heap.size rfl x hb1 rfl (by simp; omega) hz ?_; intro v' w2 hv' hg')
            go_roundw
            case rel => exact ⟨2, by omega, by omega, by go_num, by rw [show 2 - 1 = 1 from rfl, e1.out]; simpa using hv', hbb.grown hg' hz (fun k e => (hb1.lt k e).1)⟩
            case measure => simp [RowKit.intOf]; omega
          · have hk0 : 1 < k := by omega
            have e1 : Hid (glue ((linesOf s.data.toList).take k) = glue ((linesOf s.data.toList).take (k - 1)) ++ 10 :: x.data.toList) := by
              have := glue_take s.data.toList (k - 1) hkl (by omega)
              rw [hxl'.out]; rw [show k - 1 + 1 = k by omega] at this; exact Lib.hid this
            go_wp2_with fail
            refine (hP.out _).mono ?_
            rintro e w1 ⟨rfl, hq⟩
            have hb1 := hbuf.below hq
            have hbb := hb.trans (hq.mono hb.size)
            have hz := hbb.size
            go_wp2_with (first | (at_builtin; refine app_byte rfl _ _ rfl w.heap.size rfl 10 (hb1.alloc _) ⟨w1.heap.size, 0, none⟩ 1 rfl (by simp) (by simp; omega) (by simp; omega) ?_; intro v2 w2 hv2 hg2; have hbb2 := (hbb.alloc hz _).grown hg2 (by simp; omega) (fun k e => (hb1.lt k e).1); have hz2 := hbb2.size) | (at_builtin; refine app_str rfl _ _ rfl w.heap.size rfl x hv2 rfl (by simp; omega) hz2 ?_; intro v3 w3 hv3 hg3; have hbb3 := hbb2.grown hg3 hz2 (fun k e => (hv2.lt k e).1)))
            go_roundw
            case rel => exact ⟨k + 1, by omega, by omega, by go_num, by rw [show k + 1 - 1 = k from rfl, e1.out]; simpa using hv3, hbb3⟩
            case measure => simp [RowKit.intOf]; omega
        · obtain rfl : k = N + 1 := by omega
          have hcv := buf_string hbuf
          have e0 : (⟨(glue ((linesOf s.data.toList).take (N + 1 - 1))).toArray⟩ : ByteArray) = s := by
            rw [show N + 1 - 1 = N from rfl, List.take_of_length_le (by rw [hlen.out]; exact Nat.le_refl _), glue_lines]
          rw [e0] at hcv
          clear e0 hbuf
          have hP : ∀ (n : Int) W, wrap64 n = n → Calls Try.prog 10 #[.string s, .int .i64 n] W fun e w' => e = .returned (lineV s.data.toList n) ∧ Below W.heap.size W w' := fun n W h => place_Line s n W (by omega) h
          have hP := Lib.hid hP
          go_wp2
          have hB4 : Blk (wr.alloc (.cells #[.int .i64 0, .int .i64 (-1), .int .i64 (N + 1), .int .i64 m] 3)) wr.heap.size #[.int .i64 0, .int .i64 (-1), .int .i64 (N + 1), .int .i64 m] 3 := Blk.new _ _ _
          have hb4 := hb.alloc hbs (.cells #[.int .i64 0, .int .i64 (-1), .int .i64 (N + 1), .int .i64 m] 3)
          obtain ⟨g, hg⟩ : ∃ g, g = wr.heap.size := ⟨_, rfl⟩
          rw [← hg] at hB4 ⊢
          obtain ⟨WW, hWW⟩ : ∃ WW, wr.alloc (.cells #[.int .i64 0, .int .i64 (-1), .int .i64 (N + 1), .int .i64 m] 3) = WW := ⟨_, rfl⟩
          rw [hWW] at hB4 hb4 ⊢
          clear hWW hg hb hbs hcv
          go_loopw [65] (fun i W => ∃ j : Nat, j ≤ 4 ∧ i = .int .i64 j ∧ Blk W g #[.int .i64 0, .int .i64 (-1), .int .i64 (N + 1), .int .i64 m] 3 ∧ Below w.heap.size w W) (fun i _ => 4 - (RowKit.intOf i).toNat)
          case atStart => exact ⟨0, by omega, rfl, hB4, hb4⟩
          case round =>
            obtain ⟨j, hj, rfl, hBj, hbj⟩ := hrel
            clear hB4 hb4
            have c0 := hBj.cell 0; have c1 := hBj.cell 1; have c2 := hBj.cell 2; have c3 := hBj.cell 3
            simp at c0 c1 c2 c3
            by_cases hj4 : j = 4
            · subst hj4
              go_wp2_with fail
              refine (law_awake _).mono ?_
              rintro e w1 ⟨rfl, hq⟩
              go_wp2
              go_ret
              exact ⟨rfl, hbj.trans (hq.mono hbj.size)⟩
            · have hcase : ∃ n : Int, wr.cell? ⟨g, j, none⟩ = some (.int .i64 n) ∧ wrap64 n = n ∧ ((n < 1 ∨ (N : Int) < n) ∨ (1 ≤ n ∧ n ≤ N)) := by
                obtain rfl | rfl | rfl | rfl : j = 0 ∨ j = 1 ∨ j = 2 ∨ j = 3 := by omega
                · exact ⟨0, c0, by unfold wrap64; omega, by omega⟩
                · exact ⟨-1, c1, by unfold wrap64; omega, by omega⟩
                · exact ⟨N + 1, c2, by unfold wrap64; omega, by omega⟩
                · exact ⟨m, c3, hm.out, by omega⟩
              have hj3 : (j : Int) < 4 := by omega
              clear c0 c1 c2 c3
              obtain ⟨n, hcn, hwn, hin⟩ := hcase
              have hPn := hP.out n wr hwn
              have hwn := Lib.hid hwn
              rcases hin with ho | ⟨i1, i2⟩
              · rw [lineV_none _ _ (by rw [hlen.out]; exact ho)] at hPn
                have hPn := Lib.hid hPn
                go_wp2_with fail
                refine hPn.out.mono ?_
                rintro e w1 ⟨rfl, hq⟩
                go_wp2
                go_roundw
                case rel => first | exact ⟨j + 1, by omega, by go_num, hBj.below' hq, hbj.trans (hq.mono hbj.size)⟩ | ((repeat apply Exists.intro); exact ⟨⟨j + 1, by omega, by go_num, hBj.below' hq, hbj.trans (hq.mono hbj.size)⟩, rfl⟩)
                case measure => simp [RowKit.intOf]; omega
              · obtain ⟨x, b, hv⟩ : ∃ x b, lineV s.data.toList n = .tuple #[.string x, .bool b] := by unfold lineV; split <;> exact ⟨_, _, rfl⟩
                rw [hv] at hPn
                have hPn := Lib.hid hPn
                clear hv
                go_wp2_with fail
                refine hPn.out.mono ?_
                rintro e w1 ⟨rfl, hq⟩
                go_wp2
                all_goals
                  go_roundw
                  case rel => first | exact ⟨j + 1, by omega, by go_num, hBj.below' hq, hbj.trans (hq.mono hbj.size)⟩ | ((repeat apply Exists.intro); exact ⟨⟨j + 1, by omega, by go_num, hBj.below' hq, hbj.trans (hq.mono hbj.size)⟩, rfl⟩)
                  case measure => simp [RowKit.intOf]; omega

end Go.Proofs.Ytgjlpkocieffeaa
