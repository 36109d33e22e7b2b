/- whole.Print: a layout at a width. -/
import Derived.Test.YtphcmbdmkhmfbaaDoorWide
import Derived.Test.YtphcmbdmkhmfbaaDoorPPrint
import Derived.Test.YtphcmbdmkhmfbaaDoorChk
namespace Go.Proofs.YtphcmbdmkhmfbaaDoor
open Go.RowKit Go.Lib
set_option linter.unusedVariables false
set_option linter.unusedSimpArgs false
def prGo (W : Int) : List DocV → List Int → Ps → Ps
  | d :: L, x :: xs, q => match q.st with
    | b :: r => prGo W L xs (prStep W b r d x q)
    | [] => q
  | _, _, q => q
def ps0 : Ps := ⟨⟨[], false, 0, 0, 0⟩, [⟨0, false, false⟩], false, false⟩
/-- What a layout that may be is at a width. -/
def prAll (W : Int) (L : List DocV) : List UInt8 := (prGo W L (wRun L).out ps0).p.l
def cost : List DocV → Nat
  | [] => 0
  | d :: r => d.t.size + 1001 + cost r
/-- What whole.Print returns. -/
def prRes (W : Int) (L : List DocV) : Value :=
  if W < 1 ∨ 4096 < W then .tuple #[.string ⟨#[]⟩, .int .i64 1]
  else if ¬ formAt L 0 0 = -1 then .tuple #[.string ⟨#[]⟩, .int .i64 70]
  else .tuple #[.string ⟨(prAll W L).toArray⟩, .int .i64 0]
theorem prStep_st (W : Int) (b : Bk) (r : List Bk) (d : DocV) (x : Int) (q : Ps) (h : q.st = b :: r) (hb : ∀ c ∈ q.st, 0 ≤ c.i ∧ c.i ≤ 1000) (hn : 0 ≤ d.n) (h7 : d.k = 7 → r ≠ []) :
    ((prStep W b r d x q).st.length : Int) = q.st.length + opens d ∧ (∀ c ∈ (prStep W b r d x q).st, 0 ≤ c.i ∧ c.i ≤ 1000) ∧ ∃ b' r', (prStep W b r d x q).st = b' :: r' := by
  have hb0 := hb b (by rw [h]; simp)
  have hbr := fun c (hc : c ∈ r) => hb c (by rw [h]; simp [hc])
  have hsame : ∀ c ∈ b :: r, 0 ≤ c.i ∧ c.i ≤ 1000 := fun c hc => by
    rcases List.mem_cons.1 hc with rfl | hc
    · exact hb0
    · exact hbr c hc
  rw [h]
  unfold prStep opens
  by_cases k6 : d.k = 6
  · simp only [k6, if_true, List.length_cons]
    refine ⟨by simp, fun c hc => ?_, _, _, rfl⟩
    rcases List.mem_cons.1 hc with rfl | hc
    · simp only; omega
    · exact hsame c hc
  · by_cases k7 : d.k = 7
    · simp only [k7, k6, if_true, if_false, List.length_cons]
      refine ⟨by simp; omega, fun c hc => ?_, ?_⟩
      · exact hbr c (by simpa using hc)
      · cases r with
        | nil => exact absurd rfl (h7 k7)
        | cons c r => exact ⟨c, r, by simp⟩
    · simp only [k6, k7, if_false]
      split
      · split <;> exact ⟨by simp, hsame, _, _, rfl⟩
      · split
        · exact ⟨by simp, hsame, _, _, rfl⟩
        · split
          · exact ⟨by simp, hsame, _, _, rfl⟩
          · split <;> exact ⟨by simp, hsame, _, _, rfl⟩
set_option maxHeartbeats 4000000 in
set_option maxRecDepth 100000 in
theorem whole_Print (W : Int) (ao : Option Addr) (cap : Nat) (L : List DocV) (w : World) (hL : Docs w ao L) (hl : L.length ≤ 2097152) (hc : cost L ≤ 17179869184) (hT : Tabs w) (hg1 : 0 < w.heap.size) (hg2 : 1 < w.heap.size) :
    Calls Tryd.prog 28 #[.int .i64 W, .slice ao L.length cap] w fun e w' => e = .returned (prRes W L) ∧ Below w.heap.size w w' := by
  obtain ⟨X, hX⟩ : ∃ X, prRes W L = X := ⟨_, rfl⟩
  rw [hX]
  have hmay := whole_may ao L cap w hL hl
  by_cases hW : W < 1 ∨ 4096 < W
  · have hx : X = .tuple #[.string ⟨#[]⟩, .int .i64 1] := by rw [← hX]; unfold prRes; rw [if_pos hW]
    subst hx
    replace hX := Lib.hid hX; replace hL := Lib.hid hL; replace hmay := Lib.hid hmay; replace hT := Lib.hid hT
    go_enter Tryd.func28, Tryd.ntmps28
    rcases hW with hW | hW
    · go_wp2_with fail
      go_ret2
      exact ⟨rfl, Below.refl _ _⟩
    · have hW1 : ¬ W < 1 := by omega
      go_wp2_with fail
      go_ret2
      exact ⟨rfl, Below.refl _ _⟩
  have hW1 : ¬ W < 1 := by omega
  have hW2 : ¬ 4096 < W := by omega
  by_cases hf : formAt L 0 0 = -1
  · rw [decide_eq_true hf] at hmay
    have hx : X = .tuple #[.string ⟨(prAll W L).toArray⟩, .int .i64 0] := by rw [← hX]; unfold prRes; rw [if_neg hW, if_neg (by simp [hf])]
    subst hx
    obtain ⟨hrt, hd0⟩ := formAt_ok L 0 0 (Int.le_refl _) hf
    have hdt := fun j => formAt_tail L 0 0 j (Int.le_refl _) hf
    have hwd := fun w1 (h1 : Below w.heap.size w w1) => whole_widths ao cap L w1 (hL.below h1) hl (hT.below h1) (Nat.lt_of_lt_of_le hg1 h1.size) (Nat.lt_of_lt_of_le hg2 h1.size) hrt hdt
    have hol := (wRun_ok L hrt hdt).1
    obtain ⟨O, hO⟩ : ∃ O, (wRun L).out = O := ⟨_, rfl⟩
    obtain ⟨Y, hY⟩ : ∃ Y, prGo W L O ps0 = Y := ⟨_, rfl⟩
    have hYl : prAll W L = Y.p.l := by unfold prAll; rw [hO, hY]
    rw [hYl]
    rw [hO] at hol
    simp only [hO] at hwd
    replace hX := Lib.hid hX; replace hL := Lib.hid hL; replace hmay := Lib.hid hmay; replace hT := Lib.hid hT; replace hf := Lib.hid hf; replace hrt := Lib.hid hrt; replace hdt := Lib.hid hdt; replace hwd := Lib.hid hwd
    replace hY := Lib.hid hY; replace hYl := Lib.hid hYl; replace hol := Lib.hid hol; replace hO := Lib.hid hO; replace hd0 := Lib.hid hd0
    go_enter Tryd.func28, Tryd.ntmps28
    go_wp2_with fail
    refine hmay.out.mono ?_
    rintro e w1 ⟨rfl, b1⟩
    replace b1 := Lib.hid b1
    go_wp2_with fail
    refine (hwd.out w1 b1.out).mono ?_
    rintro e w2 ⟨⟨B, rfl, hB⟩, b2⟩
    replace b2 := Lib.hid (b1.out.trans (b2.mono b1.out.size)); replace hB := Lib.hid hB
    go_wp2_with fail
    refine (press_New W w2).mono ?_
    rintro e w3 ⟨pb, s, vb, rfl, hP, b3⟩
    have hB3 : ∀ (i : Nat) (v : Int), O[i]? = some v → w3.cell? ⟨B, i, none⟩ = some (.int .i64 v) ∧ B < w2.heap.size := fun i v h => ⟨keepC b3 (hB.out i v h), World.block_lt_of_cell? w2 _ (hB.out i v h)⟩
    have b23 := Lib.hid (b2.out.trans (b3.mono b2.out.size))
    have hzz := b2.out.size
    have hz3 := b3.size
    replace hP := Lib.hid hP; replace b3 := Lib.hid b3; replace hB3 := Lib.hid hB3
    go_wp2_with fail
    go_loopw [25] (fun iv W4 => ∃ (i : Nat) (vs vb : Value) (q : Ps) (U : Nat), iv = .int .i64 i ∧ i ≤ L.length ∧ Hid (Prs W4 w2.heap.size pb s vs vb q.p U W q.st q.pr q.em) ∧ U + cost (L.drop i) ≤ 17179869184 ∧ Hid (prGo W (L.drop i) (O.drop i) q = Y) ∧ Hid ((q.st.length : Int) = 1 - depth (L.drop i)) ∧ Hid (∀ c ∈ q.st, 0 ≤ c.i ∧ c.i ≤ 1000) ∧ Hid (Below w2.heap.size w3 W4)) (fun iv _ => L.length - (RowKit.intOf iv).toNat)
    case atStart => exact ⟨0, _, _, ps0, 0, rfl, by omega, hP, by simpa using hc, Lib.hid (by simpa using hY.out), Lib.hid (by have := hd0.out; simp [ps0]; omega), Lib.hid (by simp [ps0]), Lib.hid (Below.refl _ _)⟩
    case round =>
      obtain ⟨i, vs, vb', q, U, rfl, hi, hS, hU, hG, hst, hbi, hb⟩ := hrel
      have hbz := hb.out.size
      by_cases hlt : i < L.length
      · obtain ⟨d, hd⟩ : ∃ d, L[i]? = some d := ⟨_, List.getElem?_eq_getElem hlt⟩
        obtain ⟨x, hx⟩ : ∃ x, O[i]? = some x := ⟨_, List.getElem?_eq_getElem (by have := hol.out; omega)⟩
        have hdr : L.drop i = d :: L.drop (i + 1) := by
          have := List.drop_eq_getElem_cons hlt
          rw [List.getElem?_eq_getElem hlt] at hd
          rw [this, Option.some.inj hd]
        have hdx : O.drop i = x :: O.drop (i + 1) := by
          have hlo : i < O.length := by have := hol.out; omega
          have := List.drop_eq_getElem_cons hlo
          rw [List.getElem?_eq_getElem hlo] at hx
          rw [this, Option.some.inj hx]
        have hdi := hdt.out i
        have hdi1 := hdt.out (i + 1)
        rw [hdr] at hst hdi hU hG
        rw [hdx] at hG
        simp only [depth] at hst hdi
        simp only [cost] at hU
        have hst' := hst.out
        obtain ⟨b, r, hq⟩ : ∃ b r, q.st = b :: r := by
          cases h : q.st with
          | nil => rw [h] at hst'; simp at hst'; omega
          | cons b r => exact ⟨b, r, rfl⟩
        have hrd := hrt.out d (List.mem_of_getElem? hd)
        have hwk := wide_ok d hrd
        have hlen : (q.st.length : Int) ≤ 1 + L.length := by
          have := depth_ge (L.drop (i + 1))
          have : opens d ≥ -1 := by unfold opens; split <;> (try split) <;> omega
          rw [List.length_drop] at *
          omega
        have h7 : d.k = 7 → r ≠ [] := fun h e => by
          have : opens d = -1 := by simp [opens, h]
          rw [hq, e] at hst'
          simp at hst'; omega
        obtain ⟨p1, p2, b', r', p3⟩ := prStep_st W b r d x q hq hbi.out hwk.2.2.2.2.1 h7
        have hb0 := hbi.out b (by rw [hq]; simp)
        have hG2 : prGo W (L.drop (i + 1)) (O.drop (i + 1)) (prStep W b r d x q) = Y := by
          have := hG.out
          rw [prGo, hq] at this
          exact this
        have hS' := hS.out
        rw [hq] at hS' hlen
        have hbw := b23.out.trans (hb.out.mono hzz)
        obtain ⟨bl, of, rfl, c0, c1, c2, c3, c4⟩ := (hL.out.below hbw) i d hd
        have hwx := (hb.out.cell (p := ⟨B, i, none⟩) ((hB3.out i x hx).2)).trans (hB3.out i x hx).1
        have hi1 : (i : Int) < L.length := by omega
        have hi2 : (0 : Int) ≤ i := by omega
        have wi : IntKind.i64.wrap ((i : Int) + 1) = i + 1 := IntWalk.i64_in _ (by omega)
        have hmeas : L.length - (RowKit.intOf (.int .i64 ((i : Int) + 1))).toNat < L.length - (RowKit.intOf (.int .i64 (i : Int))).toNat := by simp [RowKit.intOf]; omega
        have hzr := hbw.size
        obtain ⟨W5, hW5⟩ : ∃ W5, wr.alloc (.cells #[.int .u8 d.k, .string d.t, .int .i64 d.b, .int .i64 d.n, .bool d.e] 47) = W5 := ⟨_, rfl⟩
        have hB5 : Blk W5 wr.heap.size #[.int .u8 d.k, .string d.t, .int .i64 d.b, .int .i64 d.n, .bool d.e] 47 := by rw [← hW5]; exact Blk.new _ _ _
        have hb5 : Below wr.heap.size wr W5 := by rw [← hW5]; exact (Below.refl _ _).alloc (Nat.le_refl _) _
        have p0 := hB5.cell 0; have p1 := hB5.cell 1; have p2' := hB5.cell 2; have p3' := hB5.cell 3; have p4 := hB5.cell 4
        simp at p0 p1 p2' p3' p4
        have hwx5 := keepC hb5 hwx
        have hz2r := hbz
        have hcall := press_Print w2.heap.size pb s vs vb' q.p U W b r q.pr q.em d x W5.drew (hS'.below hb5).drew (by omega) (by omega) (by simp at hlen; omega) hb0 hwk.2.2.2.1 hwk.2.2.2.2 ((hT.out.below hbw).below (hb5.drew)) (Nat.lt_of_lt_of_le hg1 hzz) (Nat.lt_of_lt_of_le hg2 hzz)
        have hqe : (⟨q.p, b :: r, q.pr, q.em⟩ : Ps) = q := by rw [← hq]
        rw [hqe] at hcall
        have hlow5 : Below w2.heap.size w3 W5 := hb.out.trans (hb5.mono (by omega))
        unfold DocV.agg at hcall
        replace hcall := Lib.hid hcall; replace hlow5 := Lib.hid hlow5; replace p1 := p1; replace p3 := Lib.hid p3
        replace hG2 := Lib.hid hG2; replace hst' := Lib.hid (show ((prStep W b r d x q).st.length : Int) = 1 - depth (L.drop (i + 1)) by omega)
        clear hG hqe hS' hS hb5 hB5 hq hdr hdx hd hx hb hbw
        go_wp2_with fail
        refine wp_region_late (fun w' => w'.cell? ⟨wr.heap.size, 0, none⟩ = some (.int .u8 d.k) ∧ w'.cell? ⟨wr.heap.size, 1, none⟩ = some (.string d.t) ∧ w'.cell? ⟨wr.heap.size, 2, none⟩ = some (.int .i64 d.b) ∧ w'.cell? ⟨wr.heap.size, 3, none⟩ = some (.int .i64 d.n) ∧ w'.cell? ⟨wr.heap.size, 4, none⟩ = some (.bool d.e) ∧ w'.cell? ⟨B, i, none⟩ = some (.int .i64 x)) 6 (by kernel_rfl) (by first | go_keep | (dsimp only; go_keep)) (fun hHeld => ?_)
        refine wpLate_take (i := 0) (v := ?_) rfl (by kernel_rfl) (fun _ _ _ h => h) (Or.inl ⟨by rfl, ?_⟩) hHeld ?_
        rotate_left
        · (intro w hSw; (try dsimp only at hSw); go_simp; try with_reducible rfl)
        simp only [Act.put, List.setIfInBounds_toArray, List.set_cons_zero, List.set_cons_succ]
        refine wpLate_take (i := 1) (v := ?_) rfl (by kernel_rfl) (fun _ _ _ h => h) (Or.inl ⟨by rfl, ?_⟩) hHeld ?_
        rotate_left
        · (intro w hSw; (try dsimp only at hSw); go_simp; try with_reducible rfl)
        simp only [Act.put, List.setIfInBounds_toArray, List.set_cons_zero, List.set_cons_succ]
        refine wpLate_take (i := 2) (v := ?_) rfl (by kernel_rfl) (fun _ _ _ h => h) (Or.inl ⟨by rfl, ?_⟩) hHeld ?_
        rotate_left
        · (intro w hSw; (try dsimp only at hSw); go_simp; try with_reducible rfl)
        simp only [Act.put, List.setIfInBounds_toArray, List.set_cons_zero, List.set_cons_succ]
        refine wpLate_take (i := 3) (v := ?_) rfl (by kernel_rfl) (fun _ _ _ h => h) (Or.inl ⟨by rfl, ?_⟩) hHeld ?_
        rotate_left
        · (intro w hSw; (try dsimp only at hSw); go_simp; try with_reducible rfl)
        simp only [Act.put, List.setIfInBounds_toArray, List.set_cons_zero, List.set_cons_succ]
        refine wpLate_take (i := 4) (v := ?_) rfl (by kernel_rfl) (fun _ _ _ h => h) (Or.inl ⟨by rfl, ?_⟩) hHeld ?_
        rotate_left
        · (intro w hSw; (try dsimp only at hSw); go_simp; try with_reducible rfl)
        simp only [Act.put, List.setIfInBounds_toArray, List.set_cons_zero, List.set_cons_succ]
        refine wpLate_take (i := 5) (v := ?_) rfl (by kernel_rfl) (fun _ _ _ h => h) (Or.inl ⟨by rfl, ?_⟩) hHeld ?_
        rotate_left
        · (intro w hSw; (try dsimp only at hSw); go_simp; try with_reducible rfl)
        simp only [Act.put, List.setIfInBounds_toArray, List.set_cons_zero, List.set_cons_succ]
        refine wpLate_last (by kernel_rfl) rfl (by kernel_rfl) (fun K hK => ?_)
        go_simp
        go_at_call 54
        refine hcall.out.mono ?_
        rintro e w6 ⟨rfl, ⟨vs', vb2, hP6⟩, b6⟩
        refine hK.out _ _ ?_
        clear hK K
        have hb6 := Lib.hid ((hlow5.out.drew).trans b6)
        replace hP6 := Lib.hid hP6
        have hU2 : U + d.t.size + 1001 + cost (L.drop (i + 1)) ≤ 17179869184 := by omega
        replace p2 := Lib.hid p2
        clear b6 hlow5 hcall
        go_wp2_with fail
        exact ⟨⟨i + 1, vs', vb2, prStep W b r d x q, U + d.t.size + 1001, by go_num, by omega, hP6, hU2, hG2, hst', p2, hb6⟩, hmeas⟩
      · have hi1 : ¬ (i : Int) < L.length := by omega
        have hie : i = L.length := by omega
        have hG2 : q = Y := by
          have := hG.out
          rw [hie, List.drop_length] at this
          simpa [prGo] using this
        subst hG2
        have ht := press_Take w2.heap.size pb s vs vb' q.p U W q.st q.pr q.em wr hS.out (Nat.le_trans hz3 hbz)
        have hbw := Lib.hid (b23.out.trans (hb.out.mono hzz))
        have hlow := Lib.hid hzz
        replace ht := Lib.hid ht
        clear hG hS hst hie hb
        go_wp2_with fail
        refine ht.out.mono ?_
        rintro e w7 ⟨rfl, b7⟩
        go_wp2_with fail
        go_ret2
        exact ⟨rfl, hbw.out.trans (b7.mono hlow.out)⟩
  · rw [decide_eq_false hf] at hmay
    have hx : X = .tuple #[.string ⟨#[]⟩, .int .i64 70] := by rw [← hX]; unfold prRes; rw [if_neg hW, if_pos hf]
    subst hx
    replace hX := Lib.hid hX; replace hL := Lib.hid hL; replace hmay := Lib.hid hmay; replace hT := Lib.hid hT; replace hf := Lib.hid hf
    go_enter Tryd.func28, Tryd.ntmps28
    go_wp2_with fail
    refine hmay.out.mono ?_
    rintro e w1 ⟨rfl, b1⟩
    replace b1 := Lib.hid b1
    go_wp2_with fail
    go_ret2
    exact ⟨rfl, b1.out⟩
end Go.Proofs.YtphcmbdmkhmfbaaDoor
