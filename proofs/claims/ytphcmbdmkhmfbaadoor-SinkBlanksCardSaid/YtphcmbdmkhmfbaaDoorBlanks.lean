/- SinkBlanks: no blanks at lines' ends; columns: the walk. -/
import Derived.Test.YtphcmbdmkhmfbaaDoorInk
import Derived.Test.YtphcmbdmkhmfbaaDoorApp
import Derived.Test.YtphcmbdmkhmfbaaDoorPlays
namespace Go.Proofs.YtphcmbdmkhmfbaaDoor
open Go.RowKit Go.Lib
/-- The letters among the first i bytes. -/
def inkAt (s : ByteArray) (i : Nat) : List UInt8 := (s.data.toList.take i).filter (fun c => decide (32 < c.toNat) && decide (c.toNat < 127))
theorem inkAt_step (s : ByteArray) (i : Nat) (h : i < s.size) : inkAt s (i + 1) = inkAt s i ++ (if 32 < byteAt s i ∧ byteAt s i < 127 then [s.data.toList.getD i 0] else []) := by
  unfold inkAt byteAt
  have hl : i < s.data.toList.length := by rw [size_len]; omega
  rw [List.take_add_one, List.filter_append, List.getElem?_eq_getElem hl, List.getD_eq_getElem?_getD, List.getElem?_eq_getElem hl]
  congr 1
  simp only [Option.toList_some, Option.getD_some, List.filter_cons, List.filter_nil]
  by_cases h1 : 32 < (s.data.toList[i]).toNat <;> by_cases h2 : (s.data.toList[i]).toNat < 127 <;> simp_all
theorem inkAt_letter (s : ByteArray) (i : Nat) : ∀ c ∈ inkAt s i, Letter c := fun c hc => by
  have := (List.mem_filter.1 hc).2
  simp at this
  exact ⟨by omega, by omega⟩
theorem inkAt_len (s : ByteArray) (i : Nat) : (inkAt s i).length ≤ i := by
  unfold inkAt
  exact Nat.le_trans (List.length_filter_le _ _) (by simp; omega)
theorem dz_text (o : Bool) (P : List UInt8) (n : Int) (p : Pn) (hP : P ≠ []) : (dPn ⟨1, o, ⟨P.toArray⟩, n⟩ p).z = 0 := by unfold dPn dStep; simp [ByteArray.size, hP]
set_option maxHeartbeats 4000000 in
set_option maxRecDepth 100000 in
theorem law_blanks (ao : Option Addr) (S : List ActV) (cap : Nat) (name : ByteArray) (w : World) (hA : Acts w ao S) (hT : Tabs w) : Calls Tryd.prog 6 #[.slice ao S.length cap, .string name] w fun e w' => e = .returned (.bool true) ∧ Below w.heap.size w w' := by
  have hg1 : 0 < w.heap.size := cell_lt (hT.1 0 _ rfl)
  have hg2 : 1 < w.heap.size := cell_lt (hT.2 0 _ rfl)
  replace hA := Lib.hid hA; replace hT := Lib.hid hT
  go_enter Tryd.func6, Tryd.ntmps6
  go_wp2_with fail
  refine (law_vast ao S cap w hA.out).mono ?_
  rintro e w' ⟨hv, rfl⟩
  rcases hv.symm with rfl | ⟨rfl, hsz⟩
  · go_wp2_with fail
    go_ret
    exact ⟨rfl, Below.refl _ _⟩
  have hS : S.length ≤ 16777216 := by omega
  go_wp2_with fail
  refine (law_deep ao S cap _ hA.out hS).mono ?_
  rintro e w' ⟨hv2, rfl⟩
  rcases hv2.symm with rfl | rfl
  · go_wp2_with fail
    go_ret
    exact ⟨rfl, Below.refl _ _⟩
  by_cases hbl : (1000 : Int) < name.size
  · go_wp2_with fail
    go_ret
    exact ⟨rfl, Below.refl _ _⟩
  go_wp2_with fail
  go_loopw [5, 6] (fun pv iv W => ∃ (i : Nat), iv = .int .i64 i ∧ i ≤ name.size ∧ Buf W w'.heap.size pv (inkAt name i) ∧ Below w'.heap.size w' W) (fun _ iv _ => name.size - (RowKit.intOf iv).toNat)
  case atStart => exact ⟨0, rfl, by omega, Buf.nil _ _, Below.refl _ _⟩
  case round =>
    obtain ⟨i, rfl, hi, hbuf, hb⟩ := hrel
    replace hbuf := Lib.hid hbuf; replace hb := Lib.hid hb
    have hbz := hb.out.size
    by_cases hlt : i < name.size
    · have hi1 : (i : Int) < name.size := by omega
      have hi2 : (0 : Int) ≤ i := by omega
      have wi : IntKind.i64.wrap ((i : Int) + 1) = i + 1 := IntWalk.i64_in _ (by omega)
      have hmeas : name.size - (RowKit.intOf (.int .i64 ((i : Int) + 1))).toNat < name.size - (RowKit.intOf (.int .i64 (i : Int))).toNat := by simp [RowKit.intOf]; omega
      have hst := inkAt_step name i hlt
      have hln := inkAt_len name i
      by_cases h1 : 32 < byteAt name i
      · by_cases h2 : byteAt name i < 127
        · rw [if_pos ⟨h1, h2⟩] at hst
          replace hst := Lib.hid hst
          have h1i : (32 : Int) < byteAt name i := by omega
          have h2i : (byteAt name i : Int) < 127 := by omega
          obtain ⟨va, vn, vc, rfl⟩ := hbuf.out.sh
          go_wp2_with (at_builtin; refine app_byte rfl _ _ rfl w'.heap.size rfl (name.data.toList.getD i 0) (hbuf.out.alloc _) ⟨wr.heap.size, 0, none⟩ 1 rfl (by simp [byteAt]) (by simp; omega) (by simp; omega) ?_; intro v2 w2 hv2 hg2; have hb2 := (hb.out.alloc hbz _).grown hg2 (by simp; omega) (fun k e => (hbuf.out.lt k e).1))
          go_roundw
          case rel => exact ⟨i + 1, by go_num, by omega, by rw [hst.out]; exact hv2, hb2⟩
          case measure => exact hmeas
        · rw [if_neg (by omega), List.append_nil] at hst
          replace hst := Lib.hid hst
          have h1i : (32 : Int) < byteAt name i := by omega
          have h2i : ¬ (byteAt name i : Int) < 127 := by omega
          go_wp2_with fail
          exact ⟨⟨i + 1, by go_num, by omega, by rw [hst.out]; exact hbuf.out, hb.out⟩, hmeas⟩
      · rw [if_neg (by omega), List.append_nil] at hst
        replace hst := Lib.hid hst
        have h1i : ¬ (32 : Int) < byteAt name i := by omega
        go_wp2_with fail
        exact ⟨⟨i + 1, by go_num, by omega, by rw [hst.out]; exact hbuf.out, hb.out⟩, hmeas⟩
    · have hi1 : ¬ (i : Int) < name.size := by omega
      have he : i = name.size := by omega
      subst he
      obtain ⟨P, hP⟩ : ∃ P, inkAt name name.size = P := ⟨_, rfl⟩
      have hPl : ∀ c ∈ P, Letter c := by rw [← hP]; exact inkAt_letter _ _
      have hPn : P.length ≤ 1000 := by rw [← hP]; have := inkAt_len name name.size; omega
      rw [hP] at hbuf
      clear hP
      obtain ⟨va, vc, rfl⟩ := hbuf.out.shape
      obtain ⟨WS, hWS⟩ : ∃ x, x = wr := ⟨_, rfl⟩
      subst hWS
      go_wp2_with fail
      refine (sk_New WS).mono ?_
      rintro e w1 ⟨rfl, s1, b1⟩
      have P0 : Pen w1 WS.heap.size (.slice none 0 0) ⟨[], false, 0, 0, 0⟩ 0 := ⟨s1, by simp, by simp, by simp⟩
      replace P0 := Lib.hid P0; replace b1 := Lib.hid b1
      have hTS := Lib.hid (hT.out.below hb.out)
      have hAS := Lib.hid (hA.out.below hb.out)
      clear s1
      go_wp2_with fail
      go_loopw [8, 9] (fun zv iv W => ∃ (i : Nat) (vs1 : Value) (p : Pn) (A T : List UInt8), iv = .int .i64 i ∧ i ≤ S.length ∧ i ≤ 3000 ∧ zv = .int .i64 p.z ∧ Pen W WS.heap.size vs1 p (i * 1001 + vs (S.take i)) ∧ Neat p A T ∧ Below WS.heap.size WS W) (fun _ iv _ => S.length - (RowKit.intOf iv).toNat)
      case atStart => exact ⟨0, _, _, [], [], rfl, by omega, by omega, rfl, P0.out, Neat.new, b1.out⟩
      case round =>
        obtain ⟨i, vs1, p, A, T, rfl, hi, hi3, rfl, hP1, hN, hb2⟩ := hrel
        replace hP1 := Lib.hid hP1; replace hN := Lib.hid hN; replace hb2 := Lib.hid hb2
        by_cases hlt : i < S.length
        · by_cases h3k : i < 3000
          · obtain ⟨a, ha⟩ : ∃ a, S[i]? = some a := ⟨_, List.getElem?_eq_getElem hlt⟩
            obtain ⟨b, o, rfl, c0, c1, c2, c3⟩ := (hAS.out.below hb2.out) i a ha
            have hi1 : (i : Int) < S.length := by omega
            have hi2 : (0 : Int) ≤ i := by omega
            have h3i : (i : Int) < 3000 := by omega
            have wi : IntKind.i64.wrap ((i : Int) + 1) = i + 1 := IntWalk.i64_in _ (by omega)
            have hmeas : S.length - (RowKit.intOf (.int .i64 ((i : Int) + 1))).toNat < S.length - (RowKit.intOf (.int .i64 (i : Int))).toNat := by simp [RowKit.intOf]; omega
            --PREP
            have hvs := vs_take S i a ha
            have hle := vs_le S i
            have hle2 := vs_le S (i + 1)
            replace ha := Lib.hid ha
            have hgS1 : 0 < WS.heap.size := by have := hb.out.size; omega
            have hgS2 : 1 < WS.heap.size := by have := hb.out.size; omega
            obtain ⟨W1, hW1⟩ : ∃ W1, wr.alloc (.cells #[.int .i64 a.k, .bool a.o, .string a.t, .int .i64 a.n] 37) = W1 := ⟨_, rfl⟩
            have hq1 : Below wr.heap.size wr W1 := by rw [← hW1]; exact (Below.refl _ _).alloc (Nat.le_refl _) _
            have hB1 : Blk W1 wr.heap.size #[.int .i64 a.k, .bool a.o, .string a.t, .int .i64 a.n] 37 := by rw [← hW1]; exact Blk.new _ _ _
            have hb3 := Lib.hid (hb2.out.trans (hq1.mono hb2.out.size))
            have hP2 := Lib.hid (hP1.out.below hq1)
            have hcv := buf_string (hbuf.out.below hb3.out)
            have q0 := hB1.cell 0; have q1 := hB1.cell 1; have q2 := hB1.cell 2; have q3 := hB1.cell 3; have f2 := hB1.frozen 2
            simp at q0 q1 q2 q3
            have hroom := hP1.out.room; have hcol := hP1.out.col
            replace hvs := Lib.hid hvs
            --CASES
            --CASES
            --CASES
            --CASES
            --CASES
            --CASES
            --CASES
            --CASES
            --CASES
            --CASES
            --CASES
            --CASES
            --CASES
            --CASES
            --CASES
            by_cases k1 : a.k = 1
            · by_cases hPe : P = []
              · rw [k1] at hW1 hB1 q0
                have hc1 : W1.cell? ⟨wr.heap.size, 2, none⟩ = some (.string a.t) := q2
                have hB2 : Blk (W1.setCell ⟨wr.heap.size, 2, none⟩ (.string ⟨P.toArray⟩)) wr.heap.size #[.int .i64 1, .bool a.o, .string ⟨P.toArray⟩, .int .i64 a.n] 37 := by
                  have := hB1.set 2 (.string ⟨P.toArray⟩)
                  simpa using this
                have hk2 : Kept (fun j => j = wr.heap.size) W1 (W1.setCell ⟨wr.heap.size, 2, none⟩ (.string ⟨P.toArray⟩)) := (Kept.refl (fun j => j = wr.heap.size) W1).setCell ⟨wr.heap.size, 2, none⟩ _ rfl
                obtain ⟨W2, hW2⟩ : ∃ W2, W1.setCell ⟨wr.heap.size, 2, none⟩ (.string ⟨P.toArray⟩) = W2 := ⟨_, rfl⟩
                rw [hW2] at hB2 hk2
                have hq2 : Below wr.heap.size wr W2 := hq1.trans (hk2.below hq1.size (fun j e => by have e : j = wr.heap.size := e; omega))
                have hb5 := Lib.hid (hb2.out.trans (hq2.mono hb2.out.size))
                have hP5 := Lib.hid (hP1.out.below hq2)
                have r0 := hB2.cell 0; have r1 := hB2.cell 1; have r2 := hB2.cell 2; have r3 := hB2.cell 3
                simp at r0 r1 r2 r3
                clear hb3 hP2
                have hPl1 : ¬ (0 : Int) < P.length := by rw [hPe]; decide
                replace hPe := Lib.hid hPe
                go_wp2_with fail
                refine (law_does WS.heap.size vs1 p (i * 1001 + vs (S.take i)) ⟨1, a.o, ⟨P.toArray⟩, a.n⟩ _ hP5.out (by show _ + P.toArray.size ≤ _; rw [List.size_toArray]; omega) (hTS.out.below hb5.out) hgS1 hgS2).mono ?_
                rintro e w3 ⟨rfl, vs2, P3, n3, kq⟩
                have hb4 := bcall hb5.out (Nat.le_refl _) hP5.out.sk (Nat.le_refl _) kq
                obtain ⟨A', T', hN'⟩ := hN.out.step ⟨1, a.o, ⟨P.toArray⟩, a.n⟩ (fun _ c hc => hPl c (by simpa using hc))
                have hzq : (dPn ⟨1, a.o, ⟨P.toArray⟩, a.n⟩ p).z = p.z := by have h := hPe.out; subst h; rfl
                have hvs := hvs.out
                replace P3 := Lib.hid P3; replace hb4 := Lib.hid hb4; replace hN' := Lib.hid hN'; replace n3 := Lib.hid n3; replace kq := Lib.hid kq; replace hzq := Lib.hid hzq
                go_wp2_with fail
                exact ⟨⟨i + 1, vs2, _, A', T', by go_num, by omega, by omega, by rw [hzq.out], P3.out.mono (by show _ + P.toArray.size + _ + _ ≤ _; rw [List.size_toArray]; omega), hN'.out, hb4.out⟩, hmeas⟩
              · rw [k1] at hW1 hB1 q0
                have hc1 : W1.cell? ⟨wr.heap.size, 2, none⟩ = some (.string a.t) := q2
                have hB2 : Blk (W1.setCell ⟨wr.heap.size, 2, none⟩ (.string ⟨P.toArray⟩)) wr.heap.size #[.int .i64 1, .bool a.o, .string ⟨P.toArray⟩, .int .i64 a.n] 37 := by
                  have := hB1.set 2 (.string ⟨P.toArray⟩)
                  simpa using this
                have hk2 : Kept (fun j => j = wr.heap.size) W1 (W1.setCell ⟨wr.heap.size, 2, none⟩ (.string ⟨P.toArray⟩)) := (Kept.refl (fun j => j = wr.heap.size) W1).setCell ⟨wr.heap.size, 2, none⟩ _ rfl
                obtain ⟨W2, hW2⟩ : ∃ W2, W1.setCell ⟨wr.heap.size, 2, none⟩ (.string ⟨P.toArray⟩) = W2 := ⟨_, rfl⟩
                rw [hW2] at hB2 hk2
                have hq2 : Below wr.heap.size wr W2 := hq1.trans (hk2.below hq1.size (fun j e => by have e : j = wr.heap.size := e; omega))
                have hb5 := Lib.hid (hb2.out.trans (hq2.mono hb2.out.size))
                have hP5 := Lib.hid (hP1.out.below hq2)
                have r0 := hB2.cell 0; have r1 := hB2.cell 1; have r2 := hB2.cell 2; have r3 := hB2.cell 3
                simp at r0 r1 r2 r3
                clear hb3 hP2
                have hPl0 : 0 < P.length := List.length_pos_iff.2 hPe
                have hPl1 : (0 : Int) < P.length := by omega
                go_wp2_with fail
                refine (law_does WS.heap.size vs1 p (i * 1001 + vs (S.take i)) ⟨1, a.o, ⟨P.toArray⟩, a.n⟩ _ hP5.out (by show _ + P.toArray.size ≤ _; rw [List.size_toArray]; omega) (hTS.out.below hb5.out) hgS1 hgS2).mono ?_
                rintro e w3 ⟨rfl, vs2, P3, n3, kq⟩
                have hb4 := bcall hb5.out (Nat.le_refl _) hP5.out.sk (Nat.le_refl _) kq
                obtain ⟨A', T', hN'⟩ := hN.out.step ⟨1, a.o, ⟨P.toArray⟩, a.n⟩ (fun _ c hc => hPl c (by simpa using hc))
                have hzq : (dPn ⟨1, a.o, ⟨P.toArray⟩, a.n⟩ p).z = 0 := dz_text _ _ _ _ hPe
                have hvs := hvs.out
                replace P3 := Lib.hid P3; replace hb4 := Lib.hid hb4; replace hN' := Lib.hid hN'; replace n3 := Lib.hid n3; replace kq := Lib.hid kq; replace hzq := Lib.hid hzq
                go_wp2_with fail
                exact ⟨⟨i + 1, vs2, _, A', T', by go_num, by omega, by omega, by rw [hzq.out]; rfl, P3.out.mono (by show _ + P.toArray.size + _ + _ ≤ _; rw [List.size_toArray]; omega), hN'.out, hb4.out⟩, hmeas⟩
            by_cases k2 : a.k = 2
            · by_cases hn : 0 ≤ a.n ∧ a.n ≤ 1048576
              · rw [k2] at hW1 q0
                have hn1 := hn.1; have hn2 := hn.2
                have hcn := clampN_of hn
                have hwz : IntKind.i64.wrap ((p.z : Int) + a.n) = p.z + a.n := IntWalk.i64_in _ (by omega)
                replace hcn := Lib.hid hcn
                go_wp2_with fail
                refine (law_does WS.heap.size vs1 p (i * 1001 + vs (S.take i)) ⟨2, a.o, a.t, a.n⟩ _ hP2.out (by have h := hvs.out; show _ + a.t.size ≤ _; omega) (hTS.out.below hb3.out) hgS1 hgS2).mono ?_
                rintro e w3 ⟨rfl, vs2, P3, n3, kq⟩
                have hb4 := bcall hb3.out (Nat.le_refl _) hP2.out.sk (Nat.le_refl _) kq
                obtain ⟨A', T', hN'⟩ := hN.out.step ⟨2, a.o, a.t, a.n⟩ (fun e => by simp at e)
                have hzq : (dPn ⟨2, a.o, a.t, a.n⟩ p).z = p.z + a.n.toNat := by unfold dPn dStep; simp [hn]
                have hvs := hvs.out
                replace P3 := Lib.hid P3; replace hb4 := Lib.hid hb4; replace hN' := Lib.hid hN'; replace n3 := Lib.hid n3; replace kq := Lib.hid kq; replace hzq := Lib.hid hzq
                go_wp2_with fail
                exact ⟨⟨i + 1, vs2, _, A', T', by go_num, by omega, by omega, by rw [hzq.out]; congr 1; omega, P3.out.mono (by show _ + a.t.size + clampN a.n + 1 ≤ _; omega), hN'.out, hb4.out⟩, hmeas⟩
              · have hnn : ¬ 0 ≤ a.n ∨ (0 ≤ a.n ∧ ¬ a.n ≤ 1048576) := by
                  by_cases h : 0 ≤ a.n
                  · exact .inr ⟨h, fun h2 => hn ⟨h, h2⟩⟩
                  · exact .inl h
                rcases hnn with hn1 | ⟨hn1, hn2⟩
                · rw [k2] at hW1 q0
                  go_wp2_with fail
                  refine (law_does WS.heap.size vs1 p (i * 1001 + vs (S.take i)) ⟨2, a.o, a.t, a.n⟩ _ hP2.out (by have h := hvs.out; show _ + a.t.size ≤ _; omega) (hTS.out.below hb3.out) hgS1 hgS2).mono ?_
                  rintro e w3 ⟨rfl, vs2, P3, n3, kq⟩
                  have hb4 := bcall hb3.out (Nat.le_refl _) hP2.out.sk (Nat.le_refl _) kq
                  obtain ⟨A', T', hN'⟩ := hN.out.step ⟨2, a.o, a.t, a.n⟩ (fun e => by simp at e)
                  have hzq : (dPn ⟨2, a.o, a.t, a.n⟩ p).z = p.z := by unfold dPn dStep; simp [hn]
                  have hvs := hvs.out
                  replace P3 := Lib.hid P3; replace hb4 := Lib.hid hb4; replace hN' := Lib.hid hN'; replace n3 := Lib.hid n3; replace kq := Lib.hid kq; replace hzq := Lib.hid hzq
                  go_wp2_with fail
                  exact ⟨⟨i + 1, vs2, _, A', T', by go_num, by omega, by omega, by rw [hzq.out], P3.out.mono (by show _ + a.t.size + clampN a.n + 1 ≤ _; omega), hN'.out, hb4.out⟩, hmeas⟩
                · rw [k2] at hW1 q0
                  go_wp2_with fail
                  refine (law_does WS.heap.size vs1 p (i * 1001 + vs (S.take i)) ⟨2, a.o, a.t, a.n⟩ _ hP2.out (by have h := hvs.out; show _ + a.t.size ≤ _; omega) (hTS.out.below hb3.out) hgS1 hgS2).mono ?_
                  rintro e w3 ⟨rfl, vs2, P3, n3, kq⟩
                  have hb4 := bcall hb3.out (Nat.le_refl _) hP2.out.sk (Nat.le_refl _) kq
                  obtain ⟨A', T', hN'⟩ := hN.out.step ⟨2, a.o, a.t, a.n⟩ (fun e => by simp at e)
                  have hzq : (dPn ⟨2, a.o, a.t, a.n⟩ p).z = p.z := by unfold dPn dStep; simp [hn]
                  have hvs := hvs.out
                  replace P3 := Lib.hid P3; replace hb4 := Lib.hid hb4; replace hN' := Lib.hid hN'; replace n3 := Lib.hid n3; replace kq := Lib.hid kq; replace hzq := Lib.hid hzq
                  go_wp2_with fail
                  exact ⟨⟨i + 1, vs2, _, A', T', by go_num, by omega, by omega, by rw [hzq.out], P3.out.mono (by show _ + a.t.size + clampN a.n + 1 ≤ _; omega), hN'.out, hb4.out⟩, hmeas⟩
            by_cases k3 : a.k = 3
            · by_cases hn : 0 ≤ a.n ∧ a.n ≤ 1048576
              · rw [k3] at hW1 q0
                have hn1 := hn.1; have hn2 := hn.2
                go_wp2_with fail
                refine (law_does WS.heap.size vs1 p (i * 1001 + vs (S.take i)) ⟨3, a.o, a.t, a.n⟩ _ hP2.out (by have h := hvs.out; show _ + a.t.size ≤ _; omega) (hTS.out.below hb3.out) hgS1 hgS2).mono ?_
                rintro e w3 ⟨rfl, vs2, P3, n3, kq⟩
                have hb4 := bcall hb3.out (Nat.le_refl _) hP2.out.sk (Nat.le_refl _) kq
                obtain ⟨A', T', hN'⟩ := hN.out.step ⟨3, a.o, a.t, a.n⟩ (fun e => by simp at e)
                have hzq : (dPn ⟨3, a.o, a.t, a.n⟩ p).z = 0 := by unfold dPn dStep; simp [hn]
                have hvs := hvs.out
                replace P3 := Lib.hid P3; replace hb4 := Lib.hid hb4; replace hN' := Lib.hid hN'; replace n3 := Lib.hid n3; replace kq := Lib.hid kq; replace hzq := Lib.hid hzq
                go_wp2_with fail
                exact ⟨⟨i + 1, vs2, _, A', T', by go_num, by omega, by omega, by rw [hzq.out]; rfl, P3.out.mono (by show _ + a.t.size + clampN a.n + 1 ≤ _; omega), hN'.out, hb4.out⟩, hmeas⟩
              · have hnn : ¬ 0 ≤ a.n ∨ (0 ≤ a.n ∧ ¬ a.n ≤ 1048576) := by
                  by_cases h : 0 ≤ a.n
                  · exact .inr ⟨h, fun h2 => hn ⟨h, h2⟩⟩
                  · exact .inl h
                rcases hnn with hn1 | ⟨hn1, hn2⟩
                · rw [k3] at hW1 q0
                  go_wp2_with fail
                  refine (law_does WS.heap.size vs1 p (i * 1001 + vs (S.take i)) ⟨3, a.o, a.t, a.n⟩ _ hP2.out (by have h := hvs.out; show _ + a.t.size ≤ _; omega) (hTS.out.below hb3.out) hgS1 hgS2).mono ?_
                  rintro e w3 ⟨rfl, vs2, P3, n3, kq⟩
                  have hb4 := bcall hb3.out (Nat.le_refl _) hP2.out.sk (Nat.le_refl _) kq
                  obtain ⟨A', T', hN'⟩ := hN.out.step ⟨3, a.o, a.t, a.n⟩ (fun e => by simp at e)
                  have hzq : (dPn ⟨3, a.o, a.t, a.n⟩ p).z = p.z := by unfold dPn dStep; simp [hn]
                  have hvs := hvs.out
                  replace P3 := Lib.hid P3; replace hb4 := Lib.hid hb4; replace hN' := Lib.hid hN'; replace n3 := Lib.hid n3; replace kq := Lib.hid kq; replace hzq := Lib.hid hzq
                  go_wp2_with fail
                  exact ⟨⟨i + 1, vs2, _, A', T', by go_num, by omega, by omega, by rw [hzq.out], P3.out.mono (by show _ + a.t.size + clampN a.n + 1 ≤ _; omega), hN'.out, hb4.out⟩, hmeas⟩
                · rw [k3] at hW1 q0
                  go_wp2_with fail
                  refine (law_does WS.heap.size vs1 p (i * 1001 + vs (S.take i)) ⟨3, a.o, a.t, a.n⟩ _ hP2.out (by have h := hvs.out; show _ + a.t.size ≤ _; omega) (hTS.out.below hb3.out) hgS1 hgS2).mono ?_
                  rintro e w3 ⟨rfl, vs2, P3, n3, kq⟩
                  have hb4 := bcall hb3.out (Nat.le_refl _) hP2.out.sk (Nat.le_refl _) kq
                  obtain ⟨A', T', hN'⟩ := hN.out.step ⟨3, a.o, a.t, a.n⟩ (fun e => by simp at e)
                  have hzq : (dPn ⟨3, a.o, a.t, a.n⟩ p).z = p.z := by unfold dPn dStep; simp [hn]
                  have hvs := hvs.out
                  replace P3 := Lib.hid P3; replace hb4 := Lib.hid hb4; replace hN' := Lib.hid hN'; replace n3 := Lib.hid n3; replace kq := Lib.hid kq; replace hzq := Lib.hid hzq
                  go_wp2_with fail
                  exact ⟨⟨i + 1, vs2, _, A', T', by go_num, by omega, by omega, by rw [hzq.out], P3.out.mono (by show _ + a.t.size + clampN a.n + 1 ≤ _; omega), hN'.out, hb4.out⟩, hmeas⟩
            by_cases k4 : a.k = 4
            · cases hf : p.f
              · rw [k4] at hW1 q0
                have c6 := sk_Fresh WS.heap.size vs1 p.l p.f p.x p.y p.z W1 hP2.out.sk
                rw [hf] at c6
                replace c6 := Lib.hid c6
                have hfh := Lib.hid hf
                clear hf
                go_wp2_with fail
                refine c6.out.mono ?_
                rintro e w6 ⟨rfl, k6, s6⟩
                have hP6 := Lib.hid (⟨by rw [hfh.out]; exact s6, hP2.out.room, hP2.out.col, hP2.out.ind⟩ : Pen w6 WS.heap.size vs1 p (i * 1001 + vs (S.take i)))
                have hb6 := Lib.hid (bcall hb3.out (Nat.le_refl _) hP2.out.sk (Nat.le_refl _) k6)
                have hno : ¬ Own WS.heap.size vs1 wr.heap.size := fun e => by have := hP1.out.sk.lt _ e; omega
                have t0 := cell_kept q0 k6 hno; have t1 := cell_kept q1 k6 hno; have t2 := cell_kept q2 k6 hno; have t3 := cell_kept q3 k6 hno
                go_wp2_with fail
                refine (law_does WS.heap.size vs1 p (i * 1001 + vs (S.take i)) ⟨4, a.o, a.t, a.n⟩ _ hP6.out (by have h := hvs.out; show _ + a.t.size ≤ _; omega) (hTS.out.below hb6.out) hgS1 hgS2).mono ?_
                rintro e w3 ⟨rfl, vs2, P3, n3, kq⟩
                have hb4 := bcall hb6.out (Nat.le_refl _) hP6.out.sk (Nat.le_refl _) kq
                obtain ⟨A', T', hN'⟩ := hN.out.step ⟨4, a.o, a.t, a.n⟩ (fun e => by simp at e)
                have hzq : (dPn ⟨4, a.o, a.t, a.n⟩ p).z = 0 := by unfold dPn dStep; simp [hfh.out]
                have hvs := hvs.out
                replace P3 := Lib.hid P3; replace hb4 := Lib.hid hb4; replace hN' := Lib.hid hN'; replace n3 := Lib.hid n3; replace kq := Lib.hid kq; replace hzq := Lib.hid hzq
                go_wp2_with fail
                exact ⟨⟨i + 1, vs2, _, A', T', by go_num, by omega, by omega, by rw [hzq.out]; rfl, P3.out.mono (by show _ + a.t.size + clampN a.n + 1 ≤ _; omega), hN'.out, hb4.out⟩, hmeas⟩
              · rw [k4] at hW1 q0
                have c6 := sk_Fresh WS.heap.size vs1 p.l p.f p.x p.y p.z W1 hP2.out.sk
                rw [hf] at c6
                replace c6 := Lib.hid c6
                have hfh := Lib.hid hf
                clear hf
                go_wp2_with fail
                refine c6.out.mono ?_
                rintro e w6 ⟨rfl, k6, s6⟩
                have hP6 := Lib.hid (⟨by rw [hfh.out]; exact s6, hP2.out.room, hP2.out.col, hP2.out.ind⟩ : Pen w6 WS.heap.size vs1 p (i * 1001 + vs (S.take i)))
                have hb6 := Lib.hid (bcall hb3.out (Nat.le_refl _) hP2.out.sk (Nat.le_refl _) k6)
                have hno : ¬ Own WS.heap.size vs1 wr.heap.size := fun e => by have := hP1.out.sk.lt _ e; omega
                have t0 := cell_kept q0 k6 hno; have t1 := cell_kept q1 k6 hno; have t2 := cell_kept q2 k6 hno; have t3 := cell_kept q3 k6 hno
                go_wp2_with fail
                refine (law_does WS.heap.size vs1 p (i * 1001 + vs (S.take i)) ⟨4, a.o, a.t, a.n⟩ _ hP6.out (by have h := hvs.out; show _ + a.t.size ≤ _; omega) (hTS.out.below hb6.out) hgS1 hgS2).mono ?_
                rintro e w3 ⟨rfl, vs2, P3, n3, kq⟩
                have hb4 := bcall hb6.out (Nat.le_refl _) hP6.out.sk (Nat.le_refl _) kq
                obtain ⟨A', T', hN'⟩ := hN.out.step ⟨4, a.o, a.t, a.n⟩ (fun e => by simp at e)
                have hzq : (dPn ⟨4, a.o, a.t, a.n⟩ p).z = p.z := by unfold dPn dStep; simp [hfh.out]
                have hvs := hvs.out
                replace P3 := Lib.hid P3; replace hb4 := Lib.hid hb4; replace hN' := Lib.hid hN'; replace n3 := Lib.hid n3; replace kq := Lib.hid kq; replace hzq := Lib.hid hzq
                go_wp2_with fail
                exact ⟨⟨i + 1, vs2, _, A', T', by go_num, by omega, by omega, by rw [hzq.out], P3.out.mono (by show _ + a.t.size + clampN a.n + 1 ≤ _; omega), hN'.out, hb4.out⟩, hmeas⟩
            go_wp2_with fail
            refine (law_does WS.heap.size vs1 p (i * 1001 + vs (S.take i)) a _ hP2.out (by have h := hvs.out; show _ + a.t.size ≤ _; omega) (hTS.out.below hb3.out) hgS1 hgS2).mono ?_
            rintro e w3 ⟨rfl, vs2, P3, n3, kq⟩
            have hb4 := bcall hb3.out (Nat.le_refl _) hP2.out.sk (Nat.le_refl _) kq
            obtain ⟨A', T', hN'⟩ := hN.out.step a (fun e => absurd e k1)
            have hzq : (dPn a p).z = p.z := by unfold dPn dStep; simp only; rw [if_neg k1, if_neg k2, if_neg k3, if_neg k4]
            have hvs := hvs.out
            replace P3 := Lib.hid P3; replace hb4 := Lib.hid hb4; replace hN' := Lib.hid hN'; replace n3 := Lib.hid n3; replace kq := Lib.hid kq; replace hzq := Lib.hid hzq
            go_wp2_with fail
            exact ⟨⟨i + 1, vs2, _, A', T', by go_num, by omega, by omega, by rw [hzq.out], P3.out.mono (by show _ + a.t.size + clampN a.n + 1 ≤ _; omega), hN'.out, hb4.out⟩, hmeas⟩
          · have h3i : ¬ (i : Int) < 3000 := by omega
            have hi1 : (i : Int) < S.length := by omega
            have hroom := hP1.out.room; have hcol := hP1.out.col; have hind := hP1.out.ind
            have hle := vs_le S i
            have hgS1 : 0 < WS.heap.size := by have := hb.out.size; omega
            have hgS2 : 1 < WS.heap.size := by have := hb.out.size; omega
            obtain ⟨F, hF⟩ : ∃ F : Bool, (!p.f) = F := ⟨_, rfl⟩
            obtain ⟨C, hC⟩ : ∃ C : Int, (if p.f then (p.y : Int) else p.x) + p.z = C := ⟨_, rfl⟩
            obtain ⟨t, ht⟩ : ∃ t : ByteArray, ⟨p.l.toArray⟩ = t := ⟨_, rfl⟩
            have htl : t.data.toList = p.l := by rw [← ht]
            have hts : t.size = p.l.length := by rw [← size_len, htl]
            obtain ⟨E1, E2, E3, E4⟩ := hN.out.end_ t htl
            have c5 := sk_Fresh WS.heap.size vs1 p.l p.f p.x p.y p.z _ hP1.out.sk
            rw [hF] at c5
            replace c5 := Lib.hid c5; replace hF := Lib.hid hF; replace hC := Lib.hid hC; replace ht := Lib.hid ht; replace htl := Lib.hid htl; replace hts := Lib.hid hts; replace E1 := Lib.hid E1; replace E2 := Lib.hid E2; replace E3 := Lib.hid E3; replace E4 := Lib.hid E4
            go_wp2_with fail
            refine c5.out.mono ?_
            rintro e w5 ⟨rfl, k5, s5⟩
            have hb5 := Lib.hid (bcall hb2.out (Nat.le_refl _) hP1.out.sk (Nat.le_refl _) k5)
            have c6 := sk_Column WS.heap.size vs1 p.l p.f p.x p.y p.z w5 s5 (by omega) (by omega) (by omega)
            rw [hC.out] at c6
            replace c6 := Lib.hid c6; replace s5 := Lib.hid s5
            clear k5 c5
            go_wp2_with fail
            refine c6.out.mono ?_
            rintro e w6 ⟨rfl, k6, s6⟩
            have hb6 := Lib.hid (bcall hb5.out (Nat.le_refl _) s5.out (Nat.le_refl _) k6)
            have c7 := sk_Take WS.heap.size vs1 p.l p.f p.x p.y p.z w6 s6
            rw [ht.out] at c7
            replace c7 := Lib.hid c7; replace s6 := Lib.hid s6
            clear k6 c6 s5 hb5
            go_wp2_with fail
            refine c7.out.mono ?_
            rintro e w7 ⟨rfl, k7, s7⟩
            have hb7 := Lib.hid (bcall hb6.out (Nat.le_refl _) s6.out (Nat.le_refl _) k7)
            clear k7 c7 s6 hb6 s7
            have hts2 : t.size ≤ 34000000 := by have := hts.out; omega
            go_wp2_with fail
            go_loopw [14, 15] (fun fv iv W => ∃ (j : Nat), iv = .int .i64 j ∧ fv = .int .i64 (fromAt t j) ∧ j ≤ t.size ∧ W = w7) (fun _ iv _ => t.size - (RowKit.intOf iv).toNat)
            case atStart => exact ⟨0, rfl, rfl, by omega, rfl⟩
            case round =>
              obtain ⟨j, rfl, rfl, hj, rfl⟩ := hrel
              by_cases hjt : j < t.size
              · have hj1 : (j : Int) < t.size := by omega
                have hj2 : (0 : Int) ≤ j := by omega
                have wj : IntKind.i64.wrap ((j : Int) + 1) = j + 1 := IntWalk.i64_in _ (by omega)
                have hms : t.size - (RowKit.intOf (.int .i64 ((j : Int) + 1))).toNat < t.size - (RowKit.intOf (.int .i64 (j : Int))).toNat := by simp [RowKit.intOf]; omega
                by_cases h10 : byteAt t j = 10
                · have hq10 : ((byteAt t j : Int) == 10) = true := by simp; omega
                  have e2 : fromAt t (j + 1) = j + 1 := by rw [fromAt, if_pos h10]
                  have hE := E1.out
                  cases j with
                  | zero =>
                    replace h10 := Lib.hid h10; replace e2 := Lib.hid e2; replace hE := Lib.hid hE
                    go_wp2_with fail
                    exact ⟨⟨1, by go_num, by rw [e2.out]; go_num, by omega, trivial⟩, hms⟩
                  | succ m =>
                    have h32 : ((byteAt t m : Int) == 32) = false := by have := hE m hjt h10; simp; omega
                    have wm : IntKind.i64.wrap (((m + 1 : Nat) : Int) - 1) = m := by rw [show ((m + 1 : Nat) : Int) - 1 = m by omega]; exact IntWalk.i64_in _ (by omega)
                    have hm0 : (0 : Int) < ((m + 1 : Nat) : Int) := by omega
                    have hm1 : (m : Int) < t.size := by omega
                    have hm2 : (0 : Int) ≤ m := by omega
                    replace h10 := Lib.hid h10; replace e2 := Lib.hid e2; replace hE := Lib.hid hE
                    go_wp2_with fail
                    exact ⟨⟨m + 2, by go_num, by rw [e2.out]; go_num, by omega, trivial⟩, hms⟩
                · have hq10 : ((byteAt t j : Int) == 10) = false := by simp; omega
                  have e2 : fromAt t (j + 1) = fromAt t j := by rw [fromAt, if_neg h10]
                  replace h10 := Lib.hid h10; replace e2 := Lib.hid e2
                  go_wp2_with fail
                  exact ⟨⟨j + 1, by go_num, by rw [e2.out], by omega, trivial⟩, hms⟩
              · have hj1 : ¬ (j : Int) < t.size := by omega
                have he : j = t.size := by omega
                subst he
                have hfrl := fromAt_le t t.size
                have hfr1 : ((fromAt t t.size : Nat) : Int) ≤ t.size := by omega
                have hfr0 : (0 : Int) ≤ ((fromAt t t.size : Nat) : Int) := by omega
                have hEe : (if F then fromAt t t.size = t.size else wid (t.data.toList.drop (fromAt t t.size)) = p.y ∧ C = p.y + p.z) := by
                  cases hF2 : F
                  · have hpf : p.f = true := by have := hF.out; rw [hF2] at this; simpa using this
                    simp only [Bool.false_eq_true, if_false]
                    exact ⟨E4.out hpf, by rw [← hC.out, if_pos hpf]⟩
                  · have hpf : p.f = false := by have := hF.out; rw [hF2] at this; simpa using this
                    simp only [if_true]
                    exact E3.out hpf
                have hz7 := hb7.out.size
                have ca : Calls Tryd.prog 19 #[] _ fun e w8 => e = .returned (.bool true) ∧ Below wr.heap.size wr w8 := awake_true wr (hTS.out.below hb7.out) (by omega) (by omega)
                have hend : ∀ w8, Below wr.heap.size wr w8 → Below w'.heap.size w' w8 := fun w8 k => by
                  have h1 := hb.out.trans (hb7.out.mono hb.out.size)
                  exact h1.trans (k.mono h1.size)
                replace ca := Lib.hid ca; replace hend := Lib.hid hend
                by_cases hz : t.size = 0
                · have hz0 : ¬ (0 : Int) < t.size := by omega
                  replace hz := Lib.hid hz
                  cases F
                  · simp only [Bool.false_eq_true, if_false] at hEe
                    obtain ⟨hE1, hE2⟩ := hEe
                    have hwz : IntKind.i64.wrap (C - (p.z : Int)) = p.y := by rw [hE2, Int.add_sub_cancel]; exact IntWalk.i64_in _ (by omega)
                    have hcx : Calls Tryd.prog 26 #[.string (t.extract (fromAt t t.size) t.size)] wr fun e w8 => e = .returned (.int .i64 p.y) ∧ Below wr.heap.size wr w8 := by
                      have := width_Text (t.extract (fromAt t t.size) t.size) wr (by simp; omega) (hTS.out.below hb7.out)
                      rwa [extract_to_end, hE1] at this
                    replace hcx := Lib.hid hcx; replace hE1 := Lib.hid hE1; replace hE2 := Lib.hid hE2
                    go_wp2_with fail
                    refine hcx.out.mono ?_
                    rintro e w8 ⟨rfl, b8⟩
                    have hz8 := b8.size
                    have c8 := awake_true w8 (hTS.out.below (hb7.out.trans (b8.mono hz7))) (by omega) (by omega)
                    replace c8 := Lib.hid c8
                    go_wp2_with (go_at_call 19; refine c8.out.mono ?_; rintro e w9 ⟨rfl, b9⟩)
                    go_ret
                    exact ⟨rfl, hend.out _ (b8.trans (b9.mono hz8))⟩
                  · simp only [if_true] at hEe
                    have hq : ((fromAt t t.size : Int) == (t.size : Int)) = true := by rw [hEe]; simp
                    replace hEe := Lib.hid hEe
                    go_wp2_with (go_at_call 19; refine ca.out.mono ?_; rintro e w8 ⟨rfl, b8⟩)
                    go_ret
                    exact ⟨rfl, hend.out _ b8⟩
                · obtain ⟨m, hm⟩ : ∃ m, m + 1 = t.size := ⟨t.size - 1, by omega⟩
                  have hz0 : (0 : Int) < t.size := by omega
                  have hm1 : (m : Int) < t.size := by omega
                  have hm2 : (0 : Int) ≤ m := by omega
                  have wz : IntKind.i64.wrap ((t.size : Int) - 1) = m := by rw [show (t.size : Int) - 1 = m by omega]; exact IntWalk.i64_in _ (by omega)
                  have h32 : ((byteAt t m : Int) == 32) = false := by have := E2.out m hm; simp; omega
                  replace hm := Lib.hid hm
                  cases F
                  · simp only [Bool.false_eq_true, if_false] at hEe
                    obtain ⟨hE1, hE2⟩ := hEe
                    have hwz : IntKind.i64.wrap (C - (p.z : Int)) = p.y := by rw [hE2, Int.add_sub_cancel]; exact IntWalk.i64_in _ (by omega)
                    have hcx : Calls Tryd.prog 26 #[.string (t.extract (fromAt t t.size) t.size)] wr fun e w8 => e = .returned (.int .i64 p.y) ∧ Below wr.heap.size wr w8 := by
                      have := width_Text (t.extract (fromAt t t.size) t.size) wr (by simp; omega) (hTS.out.below hb7.out)
                      rwa [extract_to_end, hE1] at this
                    replace hcx := Lib.hid hcx; replace hE1 := Lib.hid hE1; replace hE2 := Lib.hid hE2
                    go_wp2_with fail
                    refine hcx.out.mono ?_
                    rintro e w8 ⟨rfl, b8⟩
                    have hz8 := b8.size
                    have c8 := awake_true w8 (hTS.out.below (hb7.out.trans (b8.mono hz7))) (by omega) (by omega)
                    replace c8 := Lib.hid c8
                    go_wp2_with (go_at_call 19; refine c8.out.mono ?_; rintro e w9 ⟨rfl, b9⟩)
                    go_ret
                    exact ⟨rfl, hend.out _ (b8.trans (b9.mono hz8))⟩
                  · simp only [if_true] at hEe
                    have hq : ((fromAt t t.size : Int) == (t.size : Int)) = true := by rw [hEe]; simp
                    replace hEe := Lib.hid hEe
                    go_wp2_with (go_at_call 19; refine ca.out.mono ?_; rintro e w8 ⟨rfl, b8⟩)
                    go_ret
                    exact ⟨rfl, hend.out _ b8⟩
        · have hi1 : ¬ (i : Int) < S.length := by omega
          have hroom := hP1.out.room; have hcol := hP1.out.col; have hind := hP1.out.ind
          have hle := vs_le S i
          have hgS1 : 0 < WS.heap.size := by have := hb.out.size; omega
          have hgS2 : 1 < WS.heap.size := by have := hb.out.size; omega
          obtain ⟨F, hF⟩ : ∃ F : Bool, (!p.f) = F := ⟨_, rfl⟩
          obtain ⟨C, hC⟩ : ∃ C : Int, (if p.f then (p.y : Int) else p.x) + p.z = C := ⟨_, rfl⟩
          obtain ⟨t, ht⟩ : ∃ t : ByteArray, ⟨p.l.toArray⟩ = t := ⟨_, rfl⟩
          have htl : t.data.toList = p.l := by rw [← ht]
          have hts : t.size = p.l.length := by rw [← size_len, htl]
          obtain ⟨E1, E2, E3, E4⟩ := hN.out.end_ t htl
          have c5 := sk_Fresh WS.heap.size vs1 p.l p.f p.x p.y p.z _ hP1.out.sk
          rw [hF] at c5
          replace c5 := Lib.hid c5; replace hF := Lib.hid hF; replace hC := Lib.hid hC; replace ht := Lib.hid ht; replace htl := Lib.hid htl; replace hts := Lib.hid hts; replace E1 := Lib.hid E1; replace E2 := Lib.hid E2; replace E3 := Lib.hid E3; replace E4 := Lib.hid E4
          go_wp2_with fail
          refine c5.out.mono ?_
          rintro e w5 ⟨rfl, k5, s5⟩
          have hb5 := Lib.hid (bcall hb2.out (Nat.le_refl _) hP1.out.sk (Nat.le_refl _) k5)
          have c6 := sk_Column WS.heap.size vs1 p.l p.f p.x p.y p.z w5 s5 (by omega) (by omega) (by omega)
          rw [hC.out] at c6
          replace c6 := Lib.hid c6; replace s5 := Lib.hid s5
          clear k5 c5
          go_wp2_with fail
          refine c6.out.mono ?_
          rintro e w6 ⟨rfl, k6, s6⟩
          have hb6 := Lib.hid (bcall hb5.out (Nat.le_refl _) s5.out (Nat.le_refl _) k6)
          have c7 := sk_Take WS.heap.size vs1 p.l p.f p.x p.y p.z w6 s6
          rw [ht.out] at c7
          replace c7 := Lib.hid c7; replace s6 := Lib.hid s6
          clear k6 c6 s5 hb5
          go_wp2_with fail
          refine c7.out.mono ?_
          rintro e w7 ⟨rfl, k7, s7⟩
          have hb7 := Lib.hid (bcall hb6.out (Nat.le_refl _) s6.out (Nat.le_refl _) k7)
          clear k7 c7 s6 hb6 s7
          have hts2 : t.size ≤ 34000000 := by have := hts.out; omega
          go_wp2_with fail
          go_loopw [14, 15] (fun fv iv W => ∃ (j : Nat), iv = .int .i64 j ∧ fv = .int .i64 (fromAt t j) ∧ j ≤ t.size ∧ W = w7) (fun _ iv _ => t.size - (RowKit.intOf iv).toNat)
          case atStart => exact ⟨0, rfl, rfl, by omega, rfl⟩
          case round =>
            obtain ⟨j, rfl, rfl, hj, rfl⟩ := hrel
            by_cases hjt : j < t.size
            · have hj1 : (j : Int) < t.size := by omega
              have hj2 : (0 : Int) ≤ j := by omega
              have wj : IntKind.i64.wrap ((j : Int) + 1) = j + 1 := IntWalk.i64_in _ (by omega)
              have hms : t.size - (RowKit.intOf (.int .i64 ((j : Int) + 1))).toNat < t.size - (RowKit.intOf (.int .i64 (j : Int))).toNat := by simp [RowKit.intOf]; omega
              by_cases h10 : byteAt t j = 10
              · have hq10 : ((byteAt t j : Int) == 10) = true := by simp; omega
                have e2 : fromAt t (j + 1) = j + 1 := by rw [fromAt, if_pos h10]
                have hE := E1.out
                cases j with
                | zero =>
                  replace h10 := Lib.hid h10; replace e2 := Lib.hid e2; replace hE := Lib.hid hE
                  go_wp2_with fail
                  exact ⟨⟨1, by go_num, by rw [e2.out]; go_num, by omega, trivial⟩, hms⟩
                | succ m =>
                  have h32 : ((byteAt t m : Int) == 32) = false := by have := hE m hjt h10; simp; omega
                  have wm : IntKind.i64.wrap (((m + 1 : Nat) : Int) - 1) = m := by rw [show ((m + 1 : Nat) : Int) - 1 = m by omega]; exact IntWalk.i64_in _ (by omega)
                  have hm0 : (0 : Int) < ((m + 1 : Nat) : Int) := by omega
                  have hm1 : (m : Int) < t.size := by omega
                  have hm2 : (0 : Int) ≤ m := by omega
                  replace h10 := Lib.hid h10; replace e2 := Lib.hid e2; replace hE := Lib.hid hE
                  go_wp2_with fail
                  exact ⟨⟨m + 2, by go_num, by rw [e2.out]; go_num, by omega, trivial⟩, hms⟩
              · have hq10 : ((byteAt t j : Int) == 10) = false := by simp; omega
                have e2 : fromAt t (j + 1) = fromAt t j := by rw [fromAt, if_neg h10]
                replace h10 := Lib.hid h10; replace e2 := Lib.hid e2
                go_wp2_with fail
                exact ⟨⟨j + 1, by go_num, by rw [e2.out], by omega, trivial⟩, hms⟩
            · have hj1 : ¬ (j : Int) < t.size := by omega
              have he : j = t.size := by omega
              subst he
              have hfrl := fromAt_le t t.size
              have hfr1 : ((fromAt t t.size : Nat) : Int) ≤ t.size := by omega
              have hfr0 : (0 : Int) ≤ ((fromAt t t.size : Nat) : Int) := by omega
              have hEe : (if F then fromAt t t.size = t.size else wid (t.data.toList.drop (fromAt t t.size)) = p.y ∧ C = p.y + p.z) := by
                cases hF2 : F
                · have hpf : p.f = true := by have := hF.out; rw [hF2] at this; simpa using this
                  simp only [Bool.false_eq_true, if_false]
                  exact ⟨E4.out hpf, by rw [← hC.out, if_pos hpf]⟩
                · have hpf : p.f = false := by have := hF.out; rw [hF2] at this; simpa using this
                  simp only [if_true]
                  exact E3.out hpf
              have hz7 := hb7.out.size
              have ca : Calls Tryd.prog 19 #[] _ fun e w8 => e = .returned (.bool true) ∧ Below wr.heap.size wr w8 := awake_true wr (hTS.out.below hb7.out) (by omega) (by omega)
              have hend : ∀ w8, Below wr.heap.size wr w8 → Below w'.heap.size w' w8 := fun w8 k => by
                have h1 := hb.out.trans (hb7.out.mono hb.out.size)
                exact h1.trans (k.mono h1.size)
              replace ca := Lib.hid ca; replace hend := Lib.hid hend
              by_cases hz : t.size = 0
              · have hz0 : ¬ (0 : Int) < t.size := by omega
                replace hz := Lib.hid hz
                cases F
                · simp only [Bool.false_eq_true, if_false] at hEe
                  obtain ⟨hE1, hE2⟩ := hEe
                  have hwz : IntKind.i64.wrap (C - (p.z : Int)) = p.y := by rw [hE2, Int.add_sub_cancel]; exact IntWalk.i64_in _ (by omega)
                  have hcx : Calls Tryd.prog 26 #[.string (t.extract (fromAt t t.size) t.size)] wr fun e w8 => e = .returned (.int .i64 p.y) ∧ Below wr.heap.size wr w8 := by
                    have := width_Text (t.extract (fromAt t t.size) t.size) wr (by simp; omega) (hTS.out.below hb7.out)
                    rwa [extract_to_end, hE1] at this
                  replace hcx := Lib.hid hcx; replace hE1 := Lib.hid hE1; replace hE2 := Lib.hid hE2
                  go_wp2_with fail
                  refine hcx.out.mono ?_
                  rintro e w8 ⟨rfl, b8⟩
                  have hz8 := b8.size
                  have c8 := awake_true w8 (hTS.out.below (hb7.out.trans (b8.mono hz7))) (by omega) (by omega)
                  replace c8 := Lib.hid c8
                  go_wp2_with (go_at_call 19; refine c8.out.mono ?_; rintro e w9 ⟨rfl, b9⟩)
                  go_ret
                  exact ⟨rfl, hend.out _ (b8.trans (b9.mono hz8))⟩
                · simp only [if_true] at hEe
                  have hq : ((fromAt t t.size : Int) == (t.size : Int)) = true := by rw [hEe]; simp
                  replace hEe := Lib.hid hEe
                  go_wp2_with (go_at_call 19; refine ca.out.mono ?_; rintro e w8 ⟨rfl, b8⟩)
                  go_ret
                  exact ⟨rfl, hend.out _ b8⟩
              · obtain ⟨m, hm⟩ : ∃ m, m + 1 = t.size := ⟨t.size - 1, by omega⟩
                have hz0 : (0 : Int) < t.size := by omega
                have hm1 : (m : Int) < t.size := by omega
                have hm2 : (0 : Int) ≤ m := by omega
                have wz : IntKind.i64.wrap ((t.size : Int) - 1) = m := by rw [show (t.size : Int) - 1 = m by omega]; exact IntWalk.i64_in _ (by omega)
                have h32 : ((byteAt t m : Int) == 32) = false := by have := E2.out m hm; simp; omega
                replace hm := Lib.hid hm
                cases F
                · simp only [Bool.false_eq_true, if_false] at hEe
                  obtain ⟨hE1, hE2⟩ := hEe
                  have hwz : IntKind.i64.wrap (C - (p.z : Int)) = p.y := by rw [hE2, Int.add_sub_cancel]; exact IntWalk.i64_in _ (by omega)
                  have hcx : Calls Tryd.prog 26 #[.string (t.extract (fromAt t t.size) t.size)] wr fun e w8 => e = .returned (.int .i64 p.y) ∧ Below wr.heap.size wr w8 := by
                    have := width_Text (t.extract (fromAt t t.size) t.size) wr (by simp; omega) (hTS.out.below hb7.out)
                    rwa [extract_to_end, hE1] at this
                  replace hcx := Lib.hid hcx; replace hE1 := Lib.hid hE1; replace hE2 := Lib.hid hE2
                  go_wp2_with fail
                  refine hcx.out.mono ?_
                  rintro e w8 ⟨rfl, b8⟩
                  have hz8 := b8.size
                  have c8 := awake_true w8 (hTS.out.below (hb7.out.trans (b8.mono hz7))) (by omega) (by omega)
                  replace c8 := Lib.hid c8
                  go_wp2_with (go_at_call 19; refine c8.out.mono ?_; rintro e w9 ⟨rfl, b9⟩)
                  go_ret
                  exact ⟨rfl, hend.out _ (b8.trans (b9.mono hz8))⟩
                · simp only [if_true] at hEe
                  have hq : ((fromAt t t.size : Int) == (t.size : Int)) = true := by rw [hEe]; simp
                  replace hEe := Lib.hid hEe
                  go_wp2_with (go_at_call 19; refine ca.out.mono ?_; rintro e w8 ⟨rfl, b8⟩)
                  go_ret
                  exact ⟨rfl, hend.out _ b8⟩
end Go.Proofs.YtphcmbdmkhmfbaaDoor
