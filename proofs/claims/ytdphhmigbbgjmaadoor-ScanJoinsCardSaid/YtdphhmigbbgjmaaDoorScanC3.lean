/- The law ScanJoins returns true, walked over the printed callees. Condition on memory: the tables of package class lie as laid. -/
import Derived.Test.YtdphhmigbbgjmaaDoorM7
import Derived.Test.YtdphhmigbbgjmaaDoorJoin
import Derived.Test.YtdphhmigbbgjmaaDoorM5
import Derived.Laws.Concat
namespace Go.Proofs.YtdphhmigbbgjmaaDoor
open Go.RowKit Go.Lib
attribute [local go_sem] byteAt_get wrap64_byteAt
open PScan
open Go.Proofs.YtdphhmigbbgjmaaDoorW.PrintWords
set_option linter.unusedVariables false
set_option linter.unusedSimpArgs false
/-- Two sources with a line end between: the tokens of the one, then those of the other, moved. -/
theorem join_all (a b y : ByteArray) (hy : y.data.toList = a.data.toList ++ 10 :: b.data.toList) (h0 : (allV a).2.1 = 0) : ∃ f d, (allV y).1 = (allV a).1 ++ fdT f ((allV b).1.map (shT (a.size + 1) d)) ∧ (allV y).2.1 = (allV b).2.1 ∧
    ((allV b).2.1 ≠ 0 → (allV y).2.2.1 = (allV b).2.2.1 + (a.size : Int) + 1) := by
  have hz : y.size = a.size + 1 + b.size := by rw [← size_len, hy, List.length_append, List.length_cons, size_len, size_len]; omega
  have hN : NL y a.size := ⟨by omega, by
    unfold byteAt; rw [hy, List.getD_eq_getElem?_getD, List.getElem?_append_right (by rw [size_len]; exact Nat.le_refl _), size_len, Nat.sub_self]; rfl⟩
  have H : Beh y b (a.size + 1) := ⟨by rw [hy, ← size_len a, List.drop_append, List.drop_eq_nil_of_le (by omega), Nat.add_sub_cancel_left]; rfl, by omega, by omega, by rw [Nat.add_sub_cancel]; exact hN.2⟩
  have hc : cutS y 0 a.size = a := ba_ext (by rw [cut0_list, hy, ← size_len a, List.take_left])
  obtain ⟨f, s1, s2, s3⟩ := sc_join y b a.size hN H (by rw [hc]; exact h0)
  rw [hc] at s1
  refine ⟨f, nlAt y (a.size + 1), s1, s2, fun h => ?_⟩
  have h : (scV b).2.1 ≠ 0 := h
  show (erP y (scV y).2).1 = (erP b (scV b).2).1 + a.size + 1
  unfold erP
  rw [if_neg (by rw [s2]; exact h), if_neg h, s3 h]
  unfold plT
  simp only
  omega
theorem fdT_len (f : Int) (l : List S35) : (fdT f l).length = l.length := by cases l <;> rfl
theorem join_el (L M : List S35) (f : Int) (o d i : Nat) (z : S35) (hi : i < M.length) : ∃ f', (L ++ fdT f (M.map (shT o d))).getD (L.length + i) z = (match M.getD i z with | ⟨k, x, ⟨a, l, c⟩, _⟩ => ⟨k, x, ⟨a + (o : Int), l + (d : Int), c⟩, f'⟩) ∧ (0 < i → f' = (M.getD i z).f3) := by
  rw [List.getD_eq_getElem?_getD, List.getElem?_append_right (by omega), Nat.add_sub_cancel_left, List.getD_eq_getElem?_getD, List.getElem?_eq_getElem hi]
  cases M with
  | nil => simp at hi
  | cons m r =>
    cases i with
    | zero => exact ⟨f, rfl, fun h => absurd h (by omega)⟩
    | succ i =>
      have hr : i < r.length := by simpa using hi
      refine ⟨(r[i]).f3, ?_, fun _ => by simp⟩
      obtain ⟨k, x, ⟨a, l, c⟩, f0⟩ := m
      simp [fdT, shT, List.getElem?_map, List.getElem?_eq_getElem hr]
theorem sc_ats (s : ByteArray) (k : Nat) : ∀ a, CB s a → s.size < a + k → (∀ t ∈ (scS s k a).1, 0 ≤ t.f2.f0 ∧ t.f2.f0 ≤ (s.size : Int)) ∧ (scS s k a).2.2 ≤ s.size := by
  induction k with
  | zero => intro a h h1; have := h.1; omega
  | succ k ih =>
    intro a hC h1
    obtain ⟨w1, w2, w3⟩ := wsE_fin s a hC
    unfold scS
    by_cases c0 : wsE s a = s.size
    · rw [if_pos c0]; exact ⟨fun t ht => (by cases ht), Nat.zero_le _⟩
    rw [if_neg c0]
    obtain ⟨E, q1, q2, q3, q4, q5⟩ := one_fin s (wsE s a) (by omega) w3
    have hEm : (oneV s (wsE s a)).2.1.toNat = E := by rw [q1]; simp
    by_cases c2 : (oneV s (wsE s a)).2.2 = 0
    · have q6 := q5 c2
      rw [if_pos c2, hEm]
      obtain ⟨i1, i2⟩ := ih E q4 (by omega)
      refine ⟨fun t ht => ?_, i2⟩
      rcases List.mem_cons.1 ht with rfl | ht
      · show 0 ≤ ((wsE s a : Nat) : Int) ∧ ((wsE s a : Nat) : Int) ≤ (s.size : Int)
        omega
      · exact i1 t ht
    · rw [if_neg c2, hEm]; exact ⟨fun t ht => (by cases ht), q3⟩
theorem all_ats (s : ByteArray) : (∀ t ∈ (allV s).1, 0 ≤ t.f2.f0 ∧ t.f2.f0 ≤ (s.size : Int)) ∧ 0 ≤ (allV s).2.2.1 ∧ (allV s).2.2.1 ≤ (s.size : Int) := by
  obtain ⟨h1, h2⟩ := sc_ats s (s.size + 1) 0 (CB_zero s) (by omega)
  refine ⟨h1, ?_⟩
  show 0 ≤ (erP s (scV s).2).1 ∧ (erP s (scV s).2).1 ≤ (s.size : Int)
  unfold erP
  split
  · exact ⟨Int.le_refl _, by show (0 : Int) ≤ (s.size : Int); omega⟩
  · show 0 ≤ (((scV s).2.2 : Nat) : Int) ∧ (((scV s).2.2 : Nat) : Int) ≤ (s.size : Int)
    have : (scV s).2.2 ≤ s.size := h2
    omega
theorem scan_All_w (s : ByteArray) (hs : s.size ≤ 200000000) (w : World) (hT : Clas w) : Calls Tryd.prog 13 #[.string s] w fun e w' => ∃ A c, e = .returned (.tuple #[.slice A (allV s).1.length c, .int .i64 (allV s).2.1, .agg #[.int .i64 (allV s).2.2.1, .int .i64 (allV s).2.2.2.1, .int .i64 (allV s).2.2.2.2]]) ∧ Kd.C k35 w' A (allV s).1.length (allV s).1 ∧ (allV s).1.length ≤ c ∧ Below w.heap.size w w' := by
  refine (scan_All.calls (s.size + 7) s (allV s).1 (allV s).2.1 (allV s).2.2.1 (allV s).2.2.2.1 (allV s).2.2.2.2 w (all_f s (by omega)) hT).mono ?_
  rintro e w' ⟨v, rfl, hR, hb⟩
  obtain ⟨A, c, rfl, _, _⟩ := Kd.R_reads hR
  have h2 := Kd.R_reads' hR
  exact ⟨A, c, rfl, h2.2.2, h2.2.1, hb⟩
set_option maxHeartbeats 8000000 in
set_option maxRecDepth 100000 in
theorem law10_ScanJoins (a b : ByteArray) (w : World) (hT : Clas w) : Calls Tryd.prog 5 #[.string a, .string b] w fun e w' => e = .returned (.bool true) ∧ Below w.heap.size w w' := by
  have ca := Lib.hid (fun W h => colophonlaw10_awake.calls 30 true W awake10_f h)
  replace hT := Lib.hid hT
  by_cases hs : (67108864 : Int) < a.size
  · go_enter Tryd.func5, Tryd.ntmps5
    go_wp2_with fail
    refine (ca.out _ hT.out).mono ?_
    rintro e w1 ⟨rfl, b1⟩
    go_wp2_with fail
    go_ret
    exact ⟨rfl, b1⟩
  by_cases ho : (67108864 : Int) < b.size
  · go_enter Tryd.func5, Tryd.ntmps5
    go_wp2_with fail
    refine (ca.out _ hT.out).mono ?_
    rintro e w1 ⟨rfl, b1⟩
    go_wp2_with fail
    go_ret
    exact ⟨rfl, b1⟩
  have hy : (a ++ ⟨#[10]⟩ ++ b).data.toList = a.data.toList ++ 10 :: b.data.toList := by simp
  have hyz : (a ++ ⟨#[10]⟩ ++ b).size ≤ 200000000 := by rw [← size_len, hy, List.length_append, List.length_cons, size_len, size_len]; omega
  have sm1 : ¬ (9223372036854775807 < a.size + (⟨#[10]⟩ : ByteArray).size) := by show ¬ (9223372036854775807 < a.size + 1); omega
  have sm2 : ¬ (9223372036854775807 < (a ++ (⟨#[10]⟩ : ByteArray)).size + b.size) := by rw [ByteArray.size_append]; show ¬ (9223372036854775807 < a.size + 1 + b.size); omega
  have J := join_all a b _ hy
  have lA := all_len a
  have lB := all_len b
  have cA := Lib.hid (fun W h => scan_All_w a (by omega) W h)
  have cB := Lib.hid (fun W h => scan_All_w b (by omega) W h)
  have cY := Lib.hid (fun W h => scan_All_w _ hyz W h)
  obtain ⟨y, hye⟩ : ∃ y, a ++ ⟨#[10]⟩ ++ b = y := ⟨_, rfl⟩
  rw [hye] at J cY
  clear hy hyz
  have aB := all_ats b
  generalize allV a = RA at *
  generalize allV b = RB at *
  generalize allV y = RY at *
  obtain ⟨L, e, p, q, r⟩ := RA
  obtain ⟨M, e', p', q', r'⟩ := RB
  obtain ⟨N, e'', p'', q'', r''⟩ := RY
  simp only at cA cB cY J lA lB aB
  obtain ⟨aM, aP0, aP1⟩ := aB
  by_cases he : e = 0
  · obtain ⟨f, d, hN, h2, h3⟩ := J he
    subst he; subst h2
    have hNl : Hid (N.length = L.length + M.length) := Lib.hid (by rw [hN, List.length_append, fdT_len, List.length_map])
    have w1 : IntKind.i64.wrap (p' + (a.size : Int)) = p' + (a.size : Int) := IntWalk.i64_in _ (by omega)
    have w2 : IntKind.i64.wrap (p' + (a.size : Int) + 1) = p' + (a.size : Int) + 1 := IntWalk.i64_in _ (by omega)
    have w3 : IntKind.i64.wrap ((L.length : Int) + (M.length : Int)) = (N.length : Int) := by have := hNl.out; rw [IntWalk.i64_in _ (by omega)]; omega
    replace h3 := Lib.hid h3
    have hel := Lib.hid (fun i (z : S35) hi => join_el L M f (a.size + 1) d i z hi)
    rw [← hN] at hel
    have hNtake : Hid (N.take L.length = L) := Lib.hid (by rw [hN, List.take_left])
    have hsame := Lib.hid (same_f L (by omega))
    replace aM := Lib.hid aM
    clear hN J aP0 aP1
    go_enter Tryd.func5, Tryd.ntmps5
    go_wp2_with fail
    refine (ca.out _ hT.out).mono ?_
    rintro e_ v1 ⟨rfl, b1⟩
    replace b1 := Lib.hid b1
    go_wp2_with fail
    refine (cA.out _ (hT.out.below b1.out)).mono ?_
    rintro e_ v2 ⟨A1, c1, rfl, k1, hc1, b2⟩
    have B2 := Lib.hid ((b1.out.trans (b2.mono b1.out.size)).alloc (Nat.le_trans b1.out.size b2.size) (.cells #[.int .i64 p, .int .i64 q, .int .i64 r] 26))
    replace k1 := Lib.hid (Kd.C_alloc k1 (.cells #[.int .i64 p, .int .i64 q, .int .i64 r] 26))
    clear b2
    go_wp2_with fail
    refine (cB.out _ (hT.out.below B2.out)).mono ?_
    rintro e_ v3 ⟨A2, c2, rfl, k2, hc2, b3⟩
    have B3 := Lib.hid ((B2.out.trans (b3.mono B2.out.size)).alloc (Nat.le_trans B2.out.size b3.size) (.cells #[.int .i64 p', .int .i64 q', .int .i64 r'] 26))
    replace k1 := Lib.hid (Kd.C_alloc (Kd.C_below k1.out b3) (.cells #[.int .i64 p', .int .i64 q', .int .i64 r'] 26))
    replace k2 := Lib.hid (Kd.C_alloc k2 (.cells #[.int .i64 p', .int .i64 q', .int .i64 r'] 26))
    have hP := Lib.hid (Blk.new v3 #[.int .i64 p', .int .i64 q', .int .i64 r'] 26)
    clear b3
    go_wp2_with fail
    refine (cY.out _ (hT.out.below B3.out)).mono ?_
    rintro e_ v4 ⟨A3, c3, rfl, k3, hc3, b4⟩
    have B4 := Lib.hid ((B3.out.trans (b4.mono B3.out.size)).alloc (Nat.le_trans B3.out.size b4.size) (.cells #[.int .i64 p'', .int .i64 q'', .int .i64 r''] 26))
    replace k1 := Lib.hid (Kd.C_alloc (Kd.C_below k1.out b4) (.cells #[.int .i64 p'', .int .i64 q'', .int .i64 r''] 26))
    replace k2 := Lib.hid (Kd.C_alloc (Kd.C_below k2.out b4) (.cells #[.int .i64 p'', .int .i64 q'', .int .i64 r''] 26))
    replace k3 := Lib.hid (Kd.C_alloc k3 (.cells #[.int .i64 p'', .int .i64 q'', .int .i64 r''] 26))
    replace hP := Lib.hid ((hP.out.below' b4).alloc (.cells #[.int .i64 p'', .int .i64 q'', .int .i64 r''] 26))
    have hQ := Lib.hid (Blk.new v4 #[.int .i64 p'', .int .i64 q'', .int .i64 r''] 26)
    clear b4
    have hLc : L.length ≤ c3 := by have := hNl.out; omega
    have hLN : L.length ≤ N.length := by have := hNl.out; omega
    have k3L := Kd.C_take (m := L.length) k3.out hLN
    rw [hNtake.out] at k3L
    have cS := Lib.hid (colophonlaw10_same.calls (L.length + 1) A3 c3 L A1 c1 L true _ k3L hLc k1.out hc1 hsame.out)
    clear k3L k1 hLN
    have pc0 := hP.out.cell 0
    have qc0 := hQ.out.cell 0
    simp at pc0 qc0
    clear hP hQ
    have hq : e'' = 0 ∨ (¬ e'' = 0 ∧ p'' = p' + (a.size : Int) + 1) := by
      by_cases c : e'' = 0
      · exact .inl c
      · exact .inr ⟨c, h3.out c⟩
    clear h3
    rcases hq with rfl | ⟨he', rfl⟩
    all_goals
      go_wp2_with fail
      refine cS.out.mono ?_
      rintro e_ v5 ⟨rfl, ⟨n, rfl⟩⟩
      clear cS pc0 qc0
      go_wp2_with fail
      generalize v4.alloc _ = W4 at k2 k3 B4 ⊢
      go_loopw [16] (fun iv W => ∃ i : Nat, iv = .int .i64 i ∧ i ≤ M.length ∧ Hid (Below W4.heap.size W4 W)) (fun iv _ => M.length - (RowKit.intOf iv).toNat)
      case atStart => exact ⟨0, rfl, by omega, Lib.hid (pw_below_drewN (Below.refl _ _) n)⟩
      case round =>
        obtain ⟨i, rfl, hi, hb⟩ := hrel
        by_cases him : i < M.length
        · have himI : (i : Int) < (M.length : Int) := by omega
          have hNL := hNl.out
          have kM := Kd.C_below k2.out hb.out
          have kN := Kd.C_below k3.out hb.out
          obtain ⟨f', hx, hf'⟩ := hel.out i z35 him
          have wi : IntKind.i64.wrap ((L.length : Int) + (i : Int)) = ((L.length + i : Nat) : Int) := by rw [IntWalk.i64_in _ (by omega)]; omega
          have wiN : ((L.length + i : Nat) : Int) < (N.length : Int) := by omega
          have wi0 : (0 : Int) ≤ ((L.length + i : Nat) : Int) := by omega
          obtain ⟨ad, hA3, n0, n1, n2, n3, n4, n5⟩ := at_T35 kN ((L.length + i : Nat) : Int) wi0 wiN
          subst hA3
          have hrd : rd_T35 N ((L.length + i : Nat) : Int) = N.getD (L.length + i) z35 := by unfold rd_T35; rw [Int.toNat_natCast]
          rw [hrd, hx] at n0 n1 n2 n3 n4 n5
          have hM := aM.out (M.getD i z35) (by rw [List.getD_eq_getElem?_getD, List.getElem?_eq_getElem him]; exact List.getElem_mem him)
          have kMa := fun o => Kd.C_alloc kM o
          have hrm : rd_T35 M (i : Int) = M.getD i z35 := by unfold rd_T35; rw [Int.toNat_natCast]
          have kmc := fun o => at_T35 (kMa o) (i : Int) (by omega) himI
          rw [hrm] at kmc
          generalize M.getD i z35 = m at *
          obtain ⟨k, x, ⟨at_, l, c⟩, f0⟩ := m
          simp only [Int.toNat_natCast] at n0 n1 n2 n3 n4 n5 hM hf'
          have hoo : at_ + ((a.size + 1 : Nat) : Int) = at_ + (a.size : Int) + 1 := by omega
          rw [hoo] at n2
          have wa1 : IntKind.i64.wrap (at_ + (a.size : Int)) = at_ + (a.size : Int) := IntWalk.i64_in _ (by omega)
          have wa2 : IntKind.i64.wrap (at_ + (a.size : Int) + 1) = at_ + (a.size : Int) + 1 := IntWalk.i64_in _ (by omega)
          obtain ⟨ad2, hA2, m0, m1, m2, m3, m4, m5⟩ := kmc (.cells #[.int .u8 k, .string x, .int .i64 (at_ + (a.size : Int) + 1), .int .i64 (l + (d : Int)), .int .i64 c, .int .i64 f'] 35)
          subst hA2
          simp only [Int.toNat_natCast] at m0 m1 m2 m3 m4 m5
          have hbb := Lib.hid (hb.out.alloc hb.out.size (.cells #[.int .u8 k, .string x, .int .i64 (at_ + (a.size : Int) + 1), .int .i64 (l + (d : Int)), .int .i64 c, .int .i64 f'] 35))
          clear kM kN kMa kmc hx hrd hrm hM hoo hNL
          by_cases i0 : i = 0
          · have iI : ¬ ((0 : Int) < (i : Int)) := by omega
            have iN : ¬ (0 < i) := by omega
            have iB : decide ((0 : Int) < (i : Int)) = false := decide_eq_false iI
            have iC : decide (0 < i) = false := decide_eq_false iN
            clear i0 hf'
            go_wp2_with fail
            go_quiet (fail)
            go_wp2_with fail
            go_roundw
            case rel => exact ⟨i + 1, by go_num, by omega, Lib.hid (pw_below_drewN hbb.out _)⟩
            case measure => simp [RowKit.intOf]; omega
          · have iI : (0 : Int) < (i : Int) := by omega
            have iN : 0 < i := by omega
            have iB : decide ((0 : Int) < (i : Int)) = true := decide_eq_true iI
            have iC : decide (0 < i) = true := decide_eq_true iN
            obtain rfl := hf' iN
            go_wp2_with fail
            go_quiet (fail)
            go_wp2_with fail
            go_roundw
            case rel => exact ⟨i + 1, by go_num, by omega, Lib.hid (pw_below_drewN hbb.out _)⟩
            case measure => simp [RowKit.intOf]; omega
        · have himI : ¬ ((i : Int) < (M.length : Int)) := by omega
          go_wp2_with fail
          go_ret
          exact ⟨rfl, B4.out.trans (hb.out.mono B4.out.size)⟩
  · clear J
    go_enter Tryd.func5, Tryd.ntmps5
    go_wp2_with fail
    refine (ca.out _ hT.out).mono ?_
    rintro e_ w1 ⟨rfl, b1⟩
    replace b1 := Lib.hid b1
    go_wp2_with fail
    refine (cA.out _ (hT.out.below b1.out)).mono ?_
    rintro e_ w2 ⟨A1, c1, rfl, h1, hc1, b2⟩
    have B2 := Lib.hid ((b1.out.trans (b2.mono b1.out.size)).alloc (Nat.le_trans b1.out.size b2.size) (.cells #[.int .i64 p, .int .i64 q, .int .i64 r] 26))
    clear b2 h1
    go_wp2_with fail
    refine (cB.out _ (hT.out.below B2.out)).mono ?_
    rintro e_ w3 ⟨A2, c2, rfl, h2, hc2, b3⟩
    have B3 := Lib.hid ((B2.out.trans (b3.mono B2.out.size)).alloc (Nat.le_trans B2.out.size b3.size) (.cells #[.int .i64 p', .int .i64 q', .int .i64 r'] 26))
    clear b3 h2
    go_wp2_with fail
    refine (cY.out _ (hT.out.below B3.out)).mono ?_
    rintro e_ w4 ⟨A3, c3, rfl, h3, hc3, b4⟩
    have B4 := Lib.hid ((B3.out.trans (b4.mono B3.out.size)).alloc (Nat.le_trans B3.out.size b4.size) (.cells #[.int .i64 p'', .int .i64 q'', .int .i64 r''] 26))
    clear b4 h3
    go_wp2_with fail
    go_ret
    exact ⟨rfl, B4.out⟩
end Go.Proofs.YtdphhmigbbgjmaaDoor
