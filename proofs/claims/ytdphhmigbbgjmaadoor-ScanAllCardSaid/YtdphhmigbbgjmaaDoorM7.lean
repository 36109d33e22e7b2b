/- The law ScanAll, walked over the printed callees. The law ScanAll returns true, walked over the printed callees. -/
import Derived.Test.YtdphhmigbbgjmaaDoorM5
import Derived.Test.YtdphhmigbbgjmaaDoorPScan5
import Derived.Test.YtdphhmigbbgjmaaDoorM6
section
namespace Go.Proofs.YtdphhmigbbgjmaaDoor
open Go.RowKit Go.Lib
open PScan
theorem awake10_f : colophonlaw10_awake.f 30 = some true := by decide +kernel
end Go.Proofs.YtdphhmigbbgjmaaDoor
end
section
namespace Go.Proofs.YtdphhmigbbgjmaaDoor
open Go.RowKit Go.Lib
open PScan
open Go.Proofs.YtdphhmigbbgjmaaDoorW.PrintWords
set_option linter.unusedVariables false
set_option linter.unusedSimpArgs false
theorem same_l0 (L : List S35) (hL : L.length < 1000000000000) : ∀ (d k i : Nat), L.length = i + d → d < k → colophonlaw10_same.l0 k L L (i : Int) = some true
  | 0, k, i, h, hk => by
    obtain ⟨k, rfl⟩ : ∃ m, k = m + 1 := ⟨k - 1, by omega⟩
    simp only [colophonlaw10_same.l0]
    rw [if_neg (by omega)]
  | d + 1, k, i, h, hk => by
    obtain ⟨k, rfl⟩ : ∃ m, k = m + 1 := ⟨k - 1, by omega⟩
    have ih := same_l0 L hL d k (i + 1) (by omega) (by omega)
    simp only [colophonlaw10_same.l0]
    rw [if_pos (by omega), if_pos (by omega), if_pos (by omega), if_neg (by simp), w64 (by omega) (by omega), show (i : Int) + 1 = ((i + 1 : Nat) : Int) by omega, ih]
theorem same_f (L : List S35) (hL : L.length < 1000000000000) : colophonlaw10_same.f (L.length + 1) L L = some true := by
  unfold colophonlaw10_same.f
  rw [if_pos rfl]
  exact same_l0 L hL L.length _ 0 (by omega) (by omega)
theorem spoil_l0 (d : Nat) : ∀ (k i : Nat) (L : List S35), L.length < 1000000000000 → L.length = i + d → d < k → colophonlaw10_spoil.l0 k L (i : Int) = some () := by
  induction d with
  | zero =>
    intro k i L hL h hk
    obtain ⟨k, rfl⟩ : ∃ m, k = m + 1 := ⟨k - 1, by omega⟩
    rw [colophonlaw10_spoil.l0, if_neg (by omega), if_pos (by omega), Option.bind_some, List.length_append, List.length_singleton]
    have e1 : Hid (wrap64 (((L.length + 1 : Nat) : Int) - 1) = (L.length : Int)) := Lib.hid (by rw [w64 (by omega) (by omega)]; omega)
    rw [e1.out, if_pos (by omega), if_pos (by omega)]
  | succ d ih =>
    intro k i L hL h hk
    obtain ⟨k, rfl⟩ : ∃ m, k = m + 1 := ⟨k - 1, by omega⟩
    have e1 : Hid (wrap64 ((i : Int) + 1) = ((i + 1 : Nat) : Int)) := Lib.hid (by rw [w64 (by omega) (by omega)]; omega)
    rw [colophonlaw10_spoil.l0, if_pos (by omega), if_pos (by omega), e1.out]
    exact ih k (i + 1) _ (by simpa using hL) (by simp; omega) (by omega)
theorem spoil_f (L : List S35) (hL : L.length < 1000000000000) : colophonlaw10_spoil.f (L.length + 1) L = some () := spoil_l0 L.length _ 0 L hL (by omega) (by omega)
theorem sc_len (s : ByteArray) (k : Nat) : ∀ a, CB s a → s.size < a + k → (scS s k a).1.length + a ≤ s.size := by
  induction k with
  | zero => intro a h h2; have := h.1; omega
  | succ k ih =>
    intro a h h2
    obtain ⟨w1, w2, w3⟩ := wsE_fin s a h
    have h0 := h.1
    unfold scS
    by_cases c0 : wsE s a = s.size
    · rw [if_pos c0]; simpa using h0
    rw [if_neg c0]
    obtain ⟨e, q1, q2, q3, q4, q5⟩ := one_fin s (wsE s a) (by omega) w3
    have hem : (oneV s (wsE s a)).2.1.toNat = e := by rw [q1]; simp
    by_cases c2 : (oneV s (wsE s a)).2.2 = 0
    · have q6 := q5 c2
      rw [if_pos c2, hem]
      have := ih e q4 (by omega)
      simp only [List.length_cons]; omega
    · rw [if_neg c2]; simpa using h0
theorem all_len (s : ByteArray) : (allV s).1.length ≤ s.size := sc_len s (s.size + 1) 0 (CB_zero s) (by omega)
/-- The blocks made between two worlds. -/
def Made (w w' : World) (k : Nat) : Prop := w.heap.size ≤ k ∧ k < w'.heap.size
theorem scan_All_c (s : ByteArray) (hs : s.size ≤ 67108864) (w : World) (hT : Clas w) : Calls Tryd.prog 13 #[.string s] w fun e w' => ∃ A c, e = .returned (.tuple #[.slice A (allV s).1.length c, .int .i64 (allV s).2.1, .agg #[.int .i64 (allV s).2.2.1, .int .i64 (allV s).2.2.2.1, .int .i64 (allV s).2.2.2.2]]) ∧ k35.R 35 w' w.heap.size (Made w w') (.slice A (allV s).1.length c) (allV s).1 ∧ Below w.heap.size w w' := by
  refine (scan_All.calls (s.size + 7) s (allV s).1 (allV s).2.1 (allV s).2.2.1 (allV s).2.2.2.1 (allV s).2.2.2.2 w (all_f s (by omega)) hT).mono ?_
  rintro e w' ⟨v, rfl, hR, hb⟩
  obtain ⟨A, c, rfl, _, _⟩ := Kd.R_reads hR
  exact ⟨A, c, rfl, Kd.R_mono (Kd.R_bound hR) (fun k hk => ⟨hk.2.1, hk.2.2.1⟩), hb⟩
theorem ref_All_c (s : ByteArray) (hs : s.size ≤ 67108864) (w : World) : Calls Tryd.prog 14 #[.string s] w fun e w' => ∃ A c, e = .returned (.tuple #[.slice A (allV s).1.length c, .int .i64 (allV s).2.1, .agg #[.int .i64 (allV s).2.2.1, .int .i64 (allV s).2.2.2.1, .int .i64 (allV s).2.2.2.2]]) ∧ k35.R 35 w' w.heap.size (Made w w') (.slice A (allV s).1.length c) (allV s).1 ∧ Below w.heap.size w w' := by
  refine (colophonref10_All.calls (20 * s.size + 300) s (allV s).1 (allV s).2.1 (allV s).2.2.1 (allV s).2.2.2.1 (allV s).2.2.2.2 w (refAll_f s (by omega))).mono ?_
  rintro e w' ⟨v, rfl, hR, hb⟩
  obtain ⟨A, c, rfl, _, _⟩ := Kd.R_reads hR
  exact ⟨A, c, rfl, Kd.R_mono (Kd.R_bound hR) (fun k hk => ⟨hk.2.1, hk.2.2.1⟩), hb⟩
theorem same_c (s : ByteArray) (hs : s.size ≤ 67108864) (A B : Option Addr) (c d : Nat) (b1 b2 : Nat) (o1 o2 : Nat → Prop) (w : World) (h1 : k35.R 35 w b1 o1 (.slice A (allV s).1.length c) (allV s).1) (h2 : k35.R 35 w b2 o2 (.slice B (allV s).1.length d) (allV s).1) :
    Calls Tryd.prog 15 #[.slice A (allV s).1.length c, .slice B (allV s).1.length d] w fun e w' => e = .returned (.bool true) ∧ Below w.heap.size w w' := by
  obtain ⟨_, h1c, h1r⟩ := Kd.R_reads' h1
  obtain ⟨_, h2c, h2r⟩ := Kd.R_reads' h2
  have := all_len s
  refine (colophonlaw10_same.calls _ A c (allV s).1 B d (allV s).1 true w h1r h1c h2r h2c (same_f (allV s).1 (by omega))).mono ?_
  rintro e w' ⟨rfl, hd⟩
  obtain ⟨n, rfl⟩ := hd
  exact ⟨rfl, pw_below_drewN (Below.refl _ _) n⟩
theorem spoil_c (s : ByteArray) (hs : s.size ≤ 67108864) (A : Option Addr) (c : Nat) (b : Nat) (P : Nat → Prop) (w0 w : World) (hB : Below w0.heap.size w0 w) (hb : w0.heap.size ≤ b) (h1 : k35.R 35 w b P (.slice A (allV s).1.length c) (allV s).1) :
    Calls Tryd.prog 16 #[.slice A (allV s).1.length c] w fun e w' => e = .returned (.tuple #[]) ∧ Below w0.heap.size w0 w' ∧ Kept w w' P := by
  have := all_len s
  exact colophonlaw10_spoil.calls _ P _ (allV s).1 w0 w hB (Kd.R_lower h1 hb) (spoil_f (allV s).1 (by omega))
end Go.Proofs.YtdphhmigbbgjmaaDoor
end
section
namespace Go.Proofs.YtdphhmigbbgjmaaDoor
open Go.RowKit Go.Lib
attribute [local go_sem] byteAt_get wrap64_byteAt
open PScan
open Go.Proofs.YtdphhmigbbgjmaaDoorW.PrintWords
set_option linter.unusedVariables false
set_option linter.unusedSimpArgs false
abbrev plA (x : Int × Int × Int) : Array Value := #[.int .i64 x.1, .int .i64 x.2.1, .int .i64 x.2.2]
theorem blk_keeps {w w' : World} {b : Nat} {cs : Array Value} {t : TypeId} {P : Nat → Prop} (h : Blk w b cs t) (k : Kept w w' P) (hn : ¬ P b) : Blk w' b cs t := (k.2 b h.lt hn).trans h
theorem R_keeps {w w' : World} {b : Nat} {P o : Nat → Prop} {v : Value} {l : List S35} (h : k35.R 35 w b o v l) (k : Kept w w' P) (hn : ∀ i, o i → ¬ P i) : k35.R 35 w' b o v l := Kd.R_step h (fun i ho hi => k.2 i hi (hn i ho))
set_option maxHeartbeats 8000000 in
set_option maxRecDepth 100000 in
theorem law10_ScanAll (s o : ByteArray) (w : World) (hT : Clas w) : Calls Tryd.prog 3 #[.string s, .string o] w fun e w' => e = .returned (.bool true) ∧ Below w.heap.size w w' := by
  have ca := Lib.hid (fun W h => colophonlaw10_awake.calls 30 true W awake10_f h)
  replace hT := Lib.hid hT
  by_cases hs : (67108864 : Int) < s.size
  · go_enter Tryd.func3, Tryd.ntmps3
    go_wp2_with fail
    refine (ca.out _ hT.out).mono ?_
    rintro e w1 ⟨rfl, b1⟩
    go_wp2_with fail
    go_ret
    exact ⟨rfl, b1⟩
  by_cases ho : (67108864 : Int) < o.size
  · go_enter Tryd.func3, Tryd.ntmps3
    go_wp2_with fail
    refine (ca.out _ hT.out).mono ?_
    rintro e w1 ⟨rfl, b1⟩
    go_wp2_with fail
    go_ret
    exact ⟨rfl, b1⟩
  have hs' : s.size ≤ 67108864 := by omega
  have ho' : o.size ≤ 67108864 := by omega
  have cA := Lib.hid (fun W h => scan_All_c s hs' W h)
  have cB := Lib.hid (fun W h => scan_All_c o ho' W h)
  have cR := Lib.hid (fun W => ref_All_c s hs' W)
  have cQ := Lib.hid (fun W => ref_All_c o ho' W)
  have sA := Lib.hid (same_c s hs')
  have sB := Lib.hid (same_c o ho')
  have pA := Lib.hid (spoil_c s hs')
  have pB := Lib.hid (spoil_c o ho')
  generalize allV s = R at *
  generalize allV o = R' at *
  obtain ⟨l, e, p, q, r⟩ := R
  obtain ⟨l', e', p', q', r'⟩ := R'
  simp only at cA cB cR cQ sA sB pA pB
  replace hs' := Lib.hid hs'; replace ho' := Lib.hid ho'
  go_enter Tryd.func3, Tryd.ntmps3
  go_wp2_with fail
  refine (ca.out _ hT.out).mono ?_
  rintro e w1 ⟨rfl, b1⟩
  replace b1 := Lib.hid b1
  go_wp2_with fail
  refine (cA.out _ (hT.out.below b1.out)).mono ?_
  rintro e w2 ⟨A1, c1, rfl, h1, b2⟩
  replace h1 := Lib.hid h1; replace b2 := Lib.hid b2
  have z1 := b1.out.size
  have hP := Lib.hid (Blk.new w2 #[.int .i64 p, .int .i64 q, .int .i64 r] 26)
  have HB2 := Lib.hid ((b1.out.trans (b2.out.mono z1)).alloc (Nat.le_trans z1 b2.out.size) (.cells #[.int .i64 p, .int .i64 q, .int .i64 r] 26))
  have H1 := Lib.hid (Kd.R_alloc h1.out (.cells #[.int .i64 p, .int .i64 q, .int .i64 r] 26))
  go_wp2_with fail
  refine (cB.out _ (hT.out.below HB2.out)).mono ?_
  rintro e w3 ⟨A2, c2, rfl, h2, b3⟩
  have z2 := HB2.out.size
  have HB3 := Lib.hid ((HB2.out.trans (b3.mono z2)).alloc (Nat.le_trans z2 b3.size) (.cells #[.int .i64 p', .int .i64 q', .int .i64 r'] 26))
  have hQ := Lib.hid (Blk.new w3 #[.int .i64 p', .int .i64 q', .int .i64 r'] 26)
  replace hP := Lib.hid ((hP.out.below' b3).alloc (.cells #[.int .i64 p', .int .i64 q', .int .i64 r'] 26))
  replace H1 := Lib.hid (Kd.R_alloc (Kd.R_below H1.out b3) (.cells #[.int .i64 p', .int .i64 q', .int .i64 r'] 26))
  have H2 := Lib.hid (Kd.R_alloc h2 (.cells #[.int .i64 p', .int .i64 q', .int .i64 r'] 26))
  have s3 : w2.heap.size + 1 ≤ w3.heap.size := by have := b3.size; simpa using this
  have P1 : Made w1 w2 = Made w1 w2 := rfl
  clear P1
  obtain ⟨P2, hP2⟩ : ∃ P2, Made (w2.alloc (.cells #[.int .i64 p, .int .i64 q, .int .i64 r] 26)) w3 = P2 := ⟨_, rfl⟩
  rw [hP2] at H2
  have hP2i : ∀ k, P2 k → w2.heap.size < k ∧ k < w3.heap.size := fun k hk => by rw [← hP2] at hk; have h1 := hk.1; have h2 := hk.2; simp at h1; omega
  replace hP2i := Lib.hid hP2i; replace s3 := Lib.hid s3
  clear h2 b3 hP2
  go_wp2_with fail
  refine (cR.out _).mono ?_
  rintro e w4 ⟨A3, c3, rfl, h3, b4⟩
  have z3 := HB3.out.size
  have s4 : w3.heap.size + 1 ≤ w4.heap.size := by have := b4.size; simpa using this
  have HB4 := Lib.hid ((HB3.out.trans (b4.mono z3)).alloc (Nat.le_trans z3 b4.size) (.cells #[.int .i64 p, .int .i64 q, .int .i64 r] 26))
  have hR := Lib.hid (Blk.new w4 #[.int .i64 p, .int .i64 q, .int .i64 r] 26)
  replace hP := Lib.hid ((hP.out.below' b4).alloc (.cells #[.int .i64 p, .int .i64 q, .int .i64 r] 26))
  replace hQ := Lib.hid ((hQ.out.below' b4).alloc (.cells #[.int .i64 p, .int .i64 q, .int .i64 r] 26))
  replace H1 := Lib.hid (Kd.R_alloc (Kd.R_below H1.out b4) (.cells #[.int .i64 p, .int .i64 q, .int .i64 r] 26))
  replace H2 := Lib.hid (Kd.R_alloc (Kd.R_below H2.out b4) (.cells #[.int .i64 p, .int .i64 q, .int .i64 r] 26))
  have H3 := Lib.hid (Kd.R_alloc h3 (.cells #[.int .i64 p, .int .i64 q, .int .i64 r] 26))
  obtain ⟨P3, hP3⟩ : ∃ P3, Made (w3.alloc (.cells #[.int .i64 p', .int .i64 q', .int .i64 r'] 26)) w4 = P3 := ⟨_, rfl⟩
  rw [hP3] at H3
  have hP3i : ∀ k, P3 k → w3.heap.size < k ∧ k < w4.heap.size := fun k hk => by rw [← hP3] at hk; have h1 := hk.1; have h2 := hk.2; simp at h1; omega
  replace hP3i := Lib.hid hP3i; replace s4 := Lib.hid s4
  clear h3 b4 hP3
  go_wp2_with fail
  refine (cQ.out _).mono ?_
  rintro e w5 ⟨A4, c4, rfl, h4, b5⟩
  have z4 := HB4.out.size
  have s5 : w4.heap.size + 1 ≤ w5.heap.size := by have := b5.size; simpa using this
  have HB5 := Lib.hid ((HB4.out.trans (b5.mono z4)).alloc (Nat.le_trans z4 b5.size) (.cells #[.int .i64 p', .int .i64 q', .int .i64 r'] 26))
  have hS := Lib.hid (Blk.new w5 #[.int .i64 p', .int .i64 q', .int .i64 r'] 26)
  replace hP := Lib.hid ((hP.out.below' b5).alloc (.cells #[.int .i64 p', .int .i64 q', .int .i64 r'] 26))
  replace hQ := Lib.hid ((hQ.out.below' b5).alloc (.cells #[.int .i64 p', .int .i64 q', .int .i64 r'] 26))
  replace hR := Lib.hid ((hR.out.below' b5).alloc (.cells #[.int .i64 p', .int .i64 q', .int .i64 r'] 26))
  replace H1 := Lib.hid (Kd.R_alloc (Kd.R_below H1.out b5) (.cells #[.int .i64 p', .int .i64 q', .int .i64 r'] 26))
  replace H2 := Lib.hid (Kd.R_alloc (Kd.R_below H2.out b5) (.cells #[.int .i64 p', .int .i64 q', .int .i64 r'] 26))
  replace H3 := Lib.hid (Kd.R_alloc (Kd.R_below H3.out b5) (.cells #[.int .i64 p', .int .i64 q', .int .i64 r'] 26))
  have H4 := Lib.hid (Kd.R_alloc h4 (.cells #[.int .i64 p', .int .i64 q', .int .i64 r'] 26))
  replace s5 := Lib.hid s5
  clear h4 b5
  go_wp2_with fail
  refine (sA.out _ _ _ _ _ _ _ _ _ H1.out H3.out).mono ?_
  rintro e w6 ⟨rfl, b6⟩
  have HB6 := Lib.hid (HB5.out.trans (b6.mono HB5.out.size))
  replace hP := Lib.hid (hP.out.below' b6)
  replace hQ := Lib.hid (hQ.out.below' b6)
  replace hR := Lib.hid (hR.out.below' b6)
  replace hS := Lib.hid (hS.out.below' b6)
  replace H1 := Lib.hid (Kd.R_below H1.out b6)
  replace H2 := Lib.hid (Kd.R_below H2.out b6)
  replace H3 := Lib.hid (Kd.R_below H3.out b6)
  replace H4 := Lib.hid (Kd.R_below H4.out b6)
  clear b6
  go_wp2_with fail
  refine (sB.out _ _ _ _ _ _ _ _ _ H2.out H4.out).mono ?_
  rintro e w7 ⟨rfl, b7⟩
  have HB7 := Lib.hid (HB6.out.trans (b7.mono HB6.out.size))
  replace hP := Lib.hid (hP.out.below' b7)
  replace hQ := Lib.hid (hQ.out.below' b7)
  replace hR := Lib.hid (hR.out.below' b7)
  replace hS := Lib.hid (hS.out.below' b7)
  replace H1 := Lib.hid (Kd.R_below H1.out b7)
  replace H2 := Lib.hid (Kd.R_below H2.out b7)
  replace H3 := Lib.hid (Kd.R_below H3.out b7)
  clear b7 H4
  go_wp2_with fail
  refine (pA.out _ _ _ _ w _ HB7.out z1 H1.out).mono ?_
  rintro e w8 ⟨rfl, b8, k8⟩
  have HB8 := Lib.hid b8
  replace hP := Lib.hid (blk_keeps hP.out k8 (fun h => by have := h.2; omega))
  replace hQ := Lib.hid (blk_keeps hQ.out k8 (fun h => by have := h.2; have := s3.out; omega))
  replace hR := Lib.hid (blk_keeps hR.out k8 (fun h => by have := h.2; have := s3.out; have := s4.out; omega))
  replace hS := Lib.hid (blk_keeps hS.out k8 (fun h => by have := h.2; have := s3.out; have := s4.out; have := s5.out; omega))
  replace H2 := Lib.hid (R_keeps H2.out k8 (fun i h1 h2 => by have := hP2i.out i h1; have := h2.2; omega))
  replace H3 := Lib.hid (R_keeps H3.out k8 (fun i h1 h2 => by have := hP3i.out i h1; have := h2.2; have := s3.out; omega))
  clear b8 k8 H1
  go_wp2_with fail
  refine (pB.out _ _ _ _ w _ HB8.out z2 H2.out).mono ?_
  rintro e w9 ⟨rfl, b9, k9⟩
  have HB9 := Lib.hid b9
  replace hP := Lib.hid (blk_keeps hP.out k9 (fun h => by have := hP2i.out _ h; omega))
  replace hQ := Lib.hid (blk_keeps hQ.out k9 (fun h => by have := hP2i.out _ h; omega))
  replace hR := Lib.hid (blk_keeps hR.out k9 (fun h => by have := hP2i.out _ h; have := s4.out; omega))
  replace hS := Lib.hid (blk_keeps hS.out k9 (fun h => by have := hP2i.out _ h; have := s4.out; have := s5.out; omega))
  replace H3 := Lib.hid (R_keeps H3.out k9 (fun i h1 h2 => by have := hP3i.out i h1; have := hP2i.out i h2; omega))
  clear b9 k9 H2
  go_wp2_with fail
  refine (cA.out _ (hT.out.below HB9.out)).mono ?_
  rintro e w10 ⟨A5, c5, rfl, h5, b10⟩
  have z9 := HB9.out.size
  have HB10 := Lib.hid ((HB9.out.trans (b10.mono z9)).alloc (Nat.le_trans z9 b10.size) (.cells #[.int .i64 p, .int .i64 q, .int .i64 r] 26))
  have hU := Lib.hid (Blk.new w10 #[.int .i64 p, .int .i64 q, .int .i64 r] 26)
  replace hP := Lib.hid ((hP.out.below' b10).alloc (.cells #[.int .i64 p, .int .i64 q, .int .i64 r] 26))
  replace hQ := Lib.hid ((hQ.out.below' b10).alloc (.cells #[.int .i64 p, .int .i64 q, .int .i64 r] 26))
  replace hR := Lib.hid ((hR.out.below' b10).alloc (.cells #[.int .i64 p, .int .i64 q, .int .i64 r] 26))
  replace hS := Lib.hid ((hS.out.below' b10).alloc (.cells #[.int .i64 p, .int .i64 q, .int .i64 r] 26))
  replace H3 := Lib.hid (Kd.R_alloc (Kd.R_below H3.out b10) (.cells #[.int .i64 p, .int .i64 q, .int .i64 r] 26))
  have H5 := Lib.hid (Kd.R_alloc h5 (.cells #[.int .i64 p, .int .i64 q, .int .i64 r] 26))
  clear h5 b10
  go_wp2_with fail
  refine (sA.out _ _ _ _ _ _ _ _ _ H5.out H3.out).mono ?_
  rintro e w11 ⟨rfl, b11⟩
  have HB11 := Lib.hid (HB10.out.trans (b11.mono HB10.out.size))
  replace hP := hP.out.below' b11
  replace hQ := hQ.out.below' b11
  replace hR := hR.out.below' b11
  replace hS := hS.out.below' b11
  replace hU := hU.out.below' b11
  have p0 := hP.cell 0; have p1 := hP.cell 1; have p2 := hP.cell 2
  have q0 := hQ.cell 0; have q1 := hQ.cell 1; have q2 := hQ.cell 2
  have r0 := hR.cell 0; have r1 := hR.cell 1; have r2 := hR.cell 2
  have s0 := hS.cell 0; have s1 := hS.cell 1; have s2 := hS.cell 2
  have u0 := hU.cell 0; have u1 := hU.cell 1; have u2 := hU.cell 2
  simp at p0 p1 p2 q0 q1 q2 r0 r1 r2 s0 s1 s2 u0 u1 u2
  clear hP hQ hR hS hU b11
  go_wp2_with fail
  go_ret
  exact ⟨rfl, HB11.out⟩
end Go.Proofs.YtdphhmigbbgjmaaDoor
end
