/- The laws of report: the closed sentence, and the first law's body. Conditions: as RepS says. The second law of report: errors that hold no Fault, a nil one, none. Conditions: as RepS says. -/
import Derived.Test.YtdphhmigbbgjmaaDoorR2
import Derived.Test.YtdphhmigbbgjmaaDoorRepR
section
namespace Go.Proofs.YtdphhmigbbgjmaaDoor
open Go.RowKit Go.Lib
attribute [local go_sem] byteAt_get wrap64_byteAt
open PRep
set_option linter.unusedVariables false
set_option linter.unusedSimpArgs false
def ptsF : Nat → Bs → List Int
  | 0, _ => []
  | _ + 1, [] => []
  | f + 1, b :: t => ((decodeL (b :: t)).1 : Int) :: ptsF f ((b :: t).drop (decodeL (b :: t)).2)
theorem pts_F : ∀ (f : Nat) (l : Bs), l.length ≤ f → pts l = ptsF f l
  | 0, l, h => by cases l with | nil => rw [pts_nil]; rfl | cons b t => simp at h
  | f + 1, [], _ => by rw [pts_nil]; rfl
  | f + 1, b :: t, h => by
    have h1 := decL_pos (b :: t)
    rw [pts_step _ (by simp), pts_F f _ (by rw [List.length_drop]; omega)]; rfl
theorem awake20_line : lineT [97, 9, 98, 255, 99] 1 = (⟨#[97, 9, 98, 255, 99]⟩, true) := by decide +kernel
theorem awake20_cnt : cnt [97, 9, 98, 255, 99] = 5 := by rw [cnt_F 5 _ (by decide)]; decide +kernel
theorem awake20_sh : shN 4 [97, 9, 98, 255, 99] = [97, 32, 98, 239, 191, 189] := by decide +kernel
theorem awake20_all : shN 5 [97, 9, 98, 255, 99] = [97, 32, 98, 239, 191, 189, 99] := by decide +kernel
theorem awake20_wid : wid [97, 32, 98, 239, 191, 189] = 4 := by unfold wid; rw [pts_F 6 _ (by decide)]; decide +kernel
theorem awake20_show : showB ⟨#[102]⟩ ⟨#[97, 9, 98, 255, 99]⟩ 7 1 5 = ⟨#[102, 58, 32, 49, 58, 53, 58, 32, 101, 114, 114, 111, 114, 32, 55, 10, 32, 32, 97, 32, 98, 239, 191, 189, 99, 10, 32, 32, 32, 32, 32, 32, 94, 10]⟩ := by
  unfold showB
  rw [show (⟨#[97, 9, 98, 255, 99]⟩ : ByteArray).data.toList = [97, 9, 98, 255, 99] from rfl, awake20_line]
  rw [if_pos rfl]
  rw [show (⟨#[97, 9, 98, 255, 99]⟩ : ByteArray).data.toList = [97, 9, 98, 255, 99] from rfl, awake20_cnt, if_neg (by decide)]
  rw [show ((5 : Int) - 1).toNat = 4 from rfl]
  unfold ahN
  rw [awake20_cnt, if_pos (by decide), awake20_sh, awake20_all, awake20_wid]
  decide +kernel
set_option maxRecDepth 100000 in
set_option maxHeartbeats 8000000 in
theorem law20_awake (w : World) (hT : RepW w) :
    Calls Tryd.prog 27 #[] w fun e w' => e = .returned (.bool true) ∧ Below w.heap.size w w' := by
  have hq := Blk.new w #[.int .i64 7, .int .i64 4, .int .i64 1, .int .i64 5] 52
  have hb0 := (Below.refl w.heap.size w).alloc (Nat.le_refl _) (.cells #[.int .i64 7, .int .i64 4, .int .i64 1, .int .i64 5] 52)
  have hA := report_Show_A ⟨#[102]⟩ ⟨#[97, 9, 98, 255, 99]⟩ w.heap.size 7 4 1 5 (w.alloc (.cells #[.int .i64 7, .int .i64 4, .int .i64 1, .int .i64 5] 52)) (by decide) (by decide) (by decide) (by decide) (by decide) (hT.below ((Below.refl w.heap.size w).alloc (Nat.le_refl _) _)) hq
  rw [awake20_show] at hA
  replace hA := Lib.hid hA
  have hF := fun W => report_Show_F ⟨#[102]⟩ ⟨#[97]⟩ W
  replace hF := Lib.hid hF
  clear hq
  go_enter Tryd.func27, Tryd.ntmps27
  go_wp2_with fail
  refine hA.out.mono ?_
  rintro e w1 ⟨rfl, hb⟩
  replace hb0 := hb0.trans (hb.mono (by simp))
  clear hb hA
  go_wp2_with (go_at_call 29; refine (hF.out _).mono ?_; rintro e w2 ⟨rfl, hw⟩; rw [hw]; clear hw)
  go_ret
  exact ⟨rfl, hb0⟩
set_option maxRecDepth 100000 in
set_option maxHeartbeats 8000000 in
theorem law20_Shows (n s : ByteArray) (c a l col : Int) (hn : n.size ≤ 140737488351232) (hs : s.size ≤ 140737488351232) (hc : inI c) (ha : inI a) (hl : inI l) (hco : inI col) (w : World) (hT : RepW w) :
    Calls Tryd.prog 8 #[.string n, .string s, .agg #[.int .i64 c, .int .i64 a, .int .i64 l, .int .i64 col]] w fun e w' => e = .returned (.bool true) ∧ Below w.heap.size w w' := by
  have hq := Blk.new w #[.int .i64 c, .int .i64 a, .int .i64 l, .int .i64 col] 52
  have hb0 := (Below.refl w.heap.size w).alloc (Nat.le_refl _) (.cells #[.int .i64 c, .int .i64 a, .int .i64 l, .int .i64 col] 52)
  have hTe : ∀ W, Below w.heap.size w W → RepW W := fun W h => hT.below h
  replace hTe := Lib.hid hTe
  clear hT
  go_enter Tryd.func8, Tryd.ntmps8
  go_wp2_with fail
  refine (law20_awake _ (hTe.out _ hb0)).mono ?_
  rintro e w1 ⟨rfl, hb⟩
  replace hq := hq.below' hb
  replace hb0 := hb0.trans (hb.mono hb0.size)
  clear hb
  have hlt := hq.lt
  generalize hb5 : w.heap.size = b5 at *
  have hw : wrap64 ((n.size : Int) + (s.size : Int)) = (n.size : Int) + (s.size : Int) := by unfold wrap64; omega
  replace hw := Lib.hid hw
  by_cases hbig : (4194304 : Int) < (n.size : Int) + (s.size : Int)
  · replace hw := hw.out
    go_wp2_with fail
    go_ret
    exact ⟨rfl, by rw [hb5]; exact hb0⟩
  · have hn2 : n.size ≤ 1073741824 := by omega
    have hs2 : s.size ≤ 1073741824 := by omega
    obtain ⟨k, hk⟩ := ref20_Show_f n s c a l col hn2 hs2 hc hl hco
    have hR : ∀ W, Below b5 w W → Calls Tryd.prog 28 #[.string n, .string s, .agg #[.int .i64 c, .int .i64 a, .int .i64 l, .int .i64 col]] W fun e w' => e = .returned (.string (showB n s c l col)) ∧ Below W.heap.size W w' := fun W h => colophonref20_Show.calls k n s c a l col _ W hk (hTe.out _ h)
    have hA : ∀ (W : World) (g : Nat), Below b5 w W → Blk W g #[.int .i64 c, .int .i64 a, .int .i64 l, .int .i64 col] 52 → Calls Tryd.prog 29 #[.string n, .string s, .iface 55 (.pointer (some ⟨g, 0, none⟩))] W fun e w' => e = .returned (.string (showB n s c l col)) ∧ Below W.heap.size W w' := fun W g h hg => report_Show_A n s g c a l col W (by omega) hs2 hc hl hco (hTe.out _ h) hg
    have hB : ∀ (W : World) (g : Nat), Below b5 w W → Blk W g #[.int .i64 c, .int .i64 a, .int .i64 l, .int .i64 col] 52 → Calls Tryd.prog 29 #[.string n, .string s, .iface 59 (.agg #[.string ⟨#[109, 111, 114, 101]⟩, .iface 55 (.pointer (some ⟨g, 0, none⟩))])] W fun e w' => e = .returned (.string (showB n s c l col)) ∧ Below W.heap.size W w' := fun W g h hg => report_Show_B n s ⟨#[109, 111, 114, 101]⟩ g c a l col W (by omega) hs2 (by decide) hc hl hco (hTe.out _ h) hg
    clear hk k hTe
    generalize showB n s c l col = R at *
    replace hR := Lib.hid hR; replace hA := Lib.hid hA; replace hB := Lib.hid hB
    have c0 := hq.cell 0; have c1 := hq.cell 1; have c2 := hq.cell 2; have c3 := hq.cell 3
    simp at c0 c1 c2 c3
    replace hw := hw.out
    go_wp2_with fail
    refine (hR.out _ hb0).mono ?_
    rintro e w2 ⟨rfl, hb⟩
    replace hq := hq.below' hb
    replace hb0 := hb0.trans (hb.mono (by omega))
    have hz := hb.size
    clear hb c0 c1 c2 c3 hR
    have c0 := hq.cell 0; have c1 := hq.cell 1; have c2 := hq.cell 2; have c3 := hq.cell 3
    simp at c0 c1 c2 c3
    replace hq := Lib.hid hq
    go_wp2_with fail
    have hg := Blk.new w2 #[.int .i64 c, .int .i64 a, .int .i64 l, .int .i64 col] 52
    have hbA := hb0.alloc (by omega) (.cells #[.int .i64 c, .int .i64 a, .int .i64 l, .int .i64 col] 52)
    refine (hA.out _ w2.heap.size hbA hg).mono ?_
    rintro e w3 ⟨rfl, hb⟩
    have hz3 := hb.size
    rw [World.size_alloc] at hz3
    replace hq := Lib.hid ((hq.out.alloc _).below' hb)
    replace hg := Lib.hid (hg.below' hb)
    replace hbA := hbA.trans (hb.mono (by simp; omega))
    clear hb hb0 hA c0 c1 c2 c3
    generalize hg9 : w2.heap.size = g at *
    go_wp2_with fail
    refine (hB.out _ g hbA hg.out).mono ?_
    rintro e w4 ⟨rfl, hb⟩
    replace hq := hq.out.below' hb
    replace hg := hg.out.below' hb
    replace hbA := hbA.trans (hb.mono (by omega))
    clear hb hB
    have c0 := hq.cell 0; have c1 := hq.cell 1; have c2 := hq.cell 2; have c3 := hq.cell 3
    have g0 := hg.cell 0; have g1 := hg.cell 1; have g2 := hg.cell 2; have g3 := hg.cell 3
    simp at c0 c1 c2 c3 g0 g1 g2 g3
    go_wp2_with fail
    go_ret
    exact ⟨by simp, by rw [hb5]; exact hbA⟩
end Go.Proofs.YtdphhmigbbgjmaaDoor
end
section
namespace Go.Proofs.YtdphhmigbbgjmaaDoor
open Go.RowKit Go.Lib
attribute [local go_sem] byteAt_get wrap64_byteAt
open PRep
set_option linter.unusedVariables false
set_option linter.unusedSimpArgs false
set_option maxRecDepth 100000 in
set_option maxHeartbeats 8000000 in
theorem law20_Words (n s t : ByteArray) (hn : n.size ≤ 140737488351232) (hs : s.size ≤ 140737488351232) (ht : t.size ≤ 140737488351232) (w : World) (hT : RepW w) :
    Calls Tryd.prog 9 #[.string n, .string s, .string t] w fun e w' => e = .returned (.bool true) ∧ Below w.heap.size w w' := by
  have hb0 := Below.refl w.heap.size w
  have hTe : ∀ W, Below w.heap.size w W → RepW W := fun W h => hT.below h
  replace hTe := Lib.hid hTe
  clear hT
  have hw1 : wrap64 ((n.size : Int) + (s.size : Int)) = (n.size : Int) + (s.size : Int) := by unfold wrap64; omega
  replace hw1 := Lib.hid hw1
  have hw2 : wrap64 ((n.size : Int) + (s.size : Int) + (t.size : Int)) = (n.size : Int) + (s.size : Int) + (t.size : Int) := by unfold wrap64; omega
  replace hw2 := Lib.hid hw2
  go_enter Tryd.func9, Tryd.ntmps9
  go_wp2_with fail
  refine (law20_awake _ (hTe.out _ hb0)).mono ?_
  rintro e w1 ⟨rfl, hb⟩
  replace hb0 := hb0.trans (hb.mono hb0.size)
  clear hb
  by_cases hbig : (4194304 : Int) < (n.size : Int) + (s.size : Int) + (t.size : Int)
  · replace hw1 := hw1.out; replace hw2 := hw2.out
    go_wp2_with fail
    go_ret
    exact ⟨rfl, hb0⟩
  · have hn2 : n.size ≤ 1073741824 := by omega
    have hs2 : s.size ≤ 1073741824 := by omega
    have ht2 : t.size ≤ 1073741824 := by omega
    have q0 : (9223372036854775807 < n.size + 2) = False := eq_false (by omega)
    have q1 : (9223372036854775807 < n.size + 2 + t.size) = False := eq_false (by omega)
    have q2 : (9223372036854775807 < n.size + 2 + t.size + 1) = False := eq_false (by omega)
    have q3 : (9223372036854775807 < n.size + 3) = False := eq_false (by omega)
    have q1' : (9223372036854775807 < (n ++ ⟨#[58, 32]⟩).size + t.size) = False := eq_false (by rw [ByteArray.size_append]; show ¬ (9223372036854775807 < n.size + 2 + t.size); omega)
    have q2' : (9223372036854775807 < (n ++ ⟨#[58, 32]⟩ ++ t).size + 1) = False := eq_false (by rw [ByteArray.size_append, ByteArray.size_append]; show ¬ (9223372036854775807 < n.size + 2 + t.size + 1); omega)
    have hC : ∀ (W : World) (g : Nat), Below w.heap.size w W → W.cell? ⟨g, 0, none⟩ = some (.string t) → Calls Tryd.prog 29 #[.string n, .string s, .iface 95 (.pointer (some ⟨g, 0, none⟩))] W fun e w' => e = .returned (.string (n ++ ⟨#[58, 32]⟩ ++ t ++ ⟨#[10]⟩)) ∧ Below W.heap.size W w' := fun W g h hg => report_Show_C n s t g W (by omega) ht2 hg (hTe.out _ h)
    have hD : ∀ (W : World) (g : Nat), Below w.heap.size w W → Calls Tryd.prog 29 #[.string n, .string s, .iface 59 (.agg #[.string t, .iface 95 (.pointer (some ⟨g, 0, none⟩))])] W fun e w' => e = .returned (.string (n ++ ⟨#[58, 32]⟩ ++ t ++ ⟨#[10]⟩)) ∧ Below W.heap.size W w' := fun W g h => report_Show_D n s t g W (by omega) ht2 (hTe.out _ h)
    have hE : ∀ (W : World), Below w.heap.size w W → Calls Tryd.prog 29 #[.string n, .string s, .iface 55 (.pointer none)] W fun e w' => e = .returned (.string (n ++ ⟨#[58, 32, 10]⟩)) ∧ Below W.heap.size W w' := fun W h => by
      have := report_Show_E n s W (by omega) (hTe.out _ h)
      rw [show n ++ (⟨#[58, 32]⟩ : ByteArray) ++ ⟨#[]⟩ ++ ⟨#[10]⟩ = n ++ ⟨#[58, 32, 10]⟩ from ByteArray.ext (by simp [ByteArray.data_append, Array.append_assoc])] at this
      exact this
    have hF : ∀ (W : World), Calls Tryd.prog 29 #[.string n, .string s, .nilIface] W fun e w' => e = .returned (.string ⟨#[]⟩) ∧ w' = W := fun W => report_Show_F n s W
    clear hTe
    replace hC := Lib.hid hC; replace hD := Lib.hid hD; replace hE := Lib.hid hE; replace hF := Lib.hid hF
    replace hw1 := hw1.out; replace hw2 := hw2.out
    go_wp2_with (go_at_call 30; refine (errors_New _ _).mono ?_; rintro e w2 ⟨rfl, hw⟩; rw [hw]; clear hw)
    have hcA : (w1.alloc (.cells #[.string t] 97)).cell? ⟨w1.heap.size, 0, none⟩ = some (.string t) := (Blk.new w1 #[.string t] 97).cell 0
    have hbA := hb0.alloc hb0.size (.cells #[.string t] 97)
    refine (hC.out _ _ hbA hcA).mono ?_
    rintro e w3 ⟨rfl, hb⟩
    replace hbA := hbA.trans (hb.mono (by have := hb0.size; simp; omega))
    clear hb hcA hC hb0
    go_wp2_with (go_at_call 30; refine (errors_New _ _).mono ?_; rintro e w4 ⟨rfl, hw⟩; rw [hw]; clear hw)
    have hbB := hbA.alloc hbA.size (.cells #[.string ⟨#[120]⟩] 97)
    refine (hD.out _ _ hbB).mono ?_
    rintro e w5 ⟨rfl, hb⟩
    replace hbB := hbB.trans (hb.mono (by have := hbA.size; simp; omega))
    clear hb hbA hD
    go_wp2_with fail
    refine (hE.out _ hbB).mono ?_
    rintro e w6 ⟨rfl, hb⟩
    replace hbB := hbB.trans (hb.mono hbB.size)
    clear hb hE
    go_wp2_with fail
    refine (hF.out _).mono ?_
    rintro e w7 ⟨rfl, hw⟩
    rw [hw]
    clear hw hF
    go_wp2_with fail
    go_ret
    exact ⟨by simp, hbB⟩
end Go.Proofs.YtdphhmigbbgjmaaDoor
end
