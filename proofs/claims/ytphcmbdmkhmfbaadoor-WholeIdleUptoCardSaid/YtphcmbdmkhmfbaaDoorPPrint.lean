/- press.Print: one piece printed. -/
import Derived.Test.YtphcmbdmkhmfbaaDoorPBegin
namespace Go.Proofs.YtphcmbdmkhmfbaaDoor
open Go.RowKit Go.Lib
set_option maxHeartbeats 2000000 in
set_option maxRecDepth 100000 in
theorem press_Print (base pb s : Nat) (vs vb : Value) (p : Pn) (U : Nat) (W : Int) (b : Bk) (r : List Bk) (pr em : Bool) (d : DocV) (wide : Int) (w : World) (h : Prs w base pb s vs vb p U W (b :: r) pr em) (hU : U + d.t.size ≤ 17179869184) (hW : 0 ≤ W ∧ W ≤ 4096) (hr : r.length ≤ 2097152) (hbi : 0 ≤ b.i ∧ b.i ≤ 1000) (hdb : 0 ≤ d.b ∧ d.b ≤ 1000) (hdn : 0 ≤ d.n ∧ d.n ≤ 1000) (hTb : Tabs w) (hg1 : 0 < base) (hg2 : 1 < base) :
    Calls Tryd.prog 54 #[.pointer (some ⟨pb, 0, none⟩), d.agg, .int .i64 wide] w fun e w' => e = .returned (.tuple #[]) ∧ (∃ vs' vb', Prs w' base pb s vs' vb' (prStep W b r d wide ⟨p, b :: r, pr, em⟩).p (U + d.t.size + 1001) W (prStep W b r d wide ⟨p, b :: r, pr, em⟩).st (prStep W b r d wide ⟨p, b :: r, pr, em⟩).pr (prStep W b r d wide ⟨p, b :: r, pr, em⟩).em) ∧ Below base w w' := by
  by_cases h6 : d.k = 6
  · exact press_Begin base pb s vs vb p U W b r pr em d h6 hdn wide w h hU hW hr hbi hdb
  obtain ⟨g, cap, rfl, t0, t1, t2⟩ := h.top
  have q2 := h.blk.cell 2; have q1 := h.blk.cell 1
  simp at q1 q2
  obtain ⟨k, t, db, dn, de⟩ := d
  unfold DocV.agg
  simp only at hU hdb hdn h6 ⊢
  obtain ⟨q', hq'⟩ : ∃ q', prStep W b r ⟨k, t, db, dn, de⟩ wide ⟨p, b :: r, pr, em⟩ = q' := ⟨_, rfl⟩
  rw [hq']
  replace hq' := Lib.hid hq'
  clear hdn
  obtain ⟨W1, hW1⟩ : ∃ W1, w.alloc (.cells #[.int .u8 k, .string t, .int .i64 db, .int .i64 dn, .bool de] 47) = W1 := ⟨_, rfl⟩
  have hq1 : Below w.heap.size w W1 := by rw [← hW1]; exact (Below.refl _ _).alloc (Nat.le_refl _) _
  have hB1 : Blk W1 w.heap.size #[.int .u8 k, .string t, .int .i64 db, .int .i64 dn, .bool de] 47 := by rw [← hW1]; exact Blk.new _ _ _
  have h1 := h.below hq1
  have hz1 : W1.heap.size = w.heap.size + 1 := by rw [← hW1]; simp
  obtain ⟨T, hT⟩ : ∃ T, r.length = T := ⟨_, rfl⟩
  rw [hT] at t0 t1 t2
  have g0 := hq1.cell (p := ⟨g, T * 3, none⟩) (cell_lt t0); have g1 := hq1.cell (p := ⟨g, T * 3 + 1, none⟩) (cell_lt t0); have g2 := hq1.cell (p := ⟨g, T * 3 + 2, none⟩) (cell_lt t0)
  rw [t0] at g0; rw [t1] at g1; rw [t2] at g2
  have u1 := h1.blk.cell 1; have u2 := h1.blk.cell 2
  simp at u1 u2
  rw [hT] at u2
  have hgl := cell_lt g0
  have hwT : IntKind.i64.wrap (((T + 1 : Nat) : Int) - 1) = (T : Int) := by rw [show ((T + 1 : Nat) : Int) - 1 = T by omega]; exact IntWalk.i64_in _ (by omega)
  have hwT2 : IntKind.i64.wrap (T : Int) = (T : Int) := IntWalk.i64_in _ (by omega)
  have hwT3 : IntKind.i64.wrap ((T : Int) + 1 - 1) = (T : Int) := by rw [Int.add_sub_cancel]; exact hwT2
  have hT3 : (T : Int) < (T : Int) + 1 := by omega
  have hT1 : (T : Int) < ((T + 1 : Nat) : Int) := by omega
  have hT2 : (0 : Int) ≤ T := by omega
  have n0 := World.new_ne W1 _ u2
  have n1 := World.new_ne W1 _ g0
  replace h := Lib.hid h; replace h1 := Lib.hid h1; replace hT := Lib.hid hT; replace hz1 := Lib.hid hz1
  clear t0 t1 t2 q1 q2
  go_enter Tryd.func54, Tryd.ntmps54
  go_wp2_with fail
  go_region_held3 (fun w' => w'.cell? ⟨pb, 2, none⟩ = some (.slice (some ⟨g, 0, none⟩) (T + 1) cap) ∧ w'.cell? ⟨g, T * 3, none⟩ = some (.int .i64 b.i) ∧ w'.cell? ⟨g, T * 3 + 1, none⟩ = some (.bool b.e) ∧ w'.cell? ⟨g, T * 3 + 2, none⟩ = some (.bool b.f)) (go_keep) (fail)
  obtain ⟨W2, hW2⟩ : ∃ W2, (W1.alloc (.cells #[.int .i64 b.i, .bool b.e, .bool b.f] TK)).drew = W2 := ⟨_, rfl⟩
  rw [hW2]
  have hq2 : Below W1.heap.size W1 W2 := by rw [← hW2]; exact ((Below.refl _ _).alloc (Nat.le_refl _) _).drew
  have hB2 : Blk W2 W1.heap.size #[.int .i64 b.i, .bool b.e, .bool b.f] TK := by rw [← hW2]; exact (Blk.new _ _ _).drew
  have hD2 : Blk W2 w.heap.size #[.int .u8 k, .string t, .int .i64 db, .int .i64 dn, .bool de] 47 := hB1.below' hq2
  have h2 := h1.out.below hq2
  have hq02 : Below w.heap.size w W2 := hq1.trans (hq2.mono hq1.size)
  have v1 := h2.blk.cell 1
  simp at v1
  clear hW2 n0 n1 u1 u2 g0 g1 g2
  have c5 := sk_Fresh s vs p.l p.f p.x p.y p.z W2 h2.pen.sk
  obtain ⟨F, hF⟩ : ∃ F : Bool, (!p.f) = F := ⟨_, rfl⟩
  rw [hF] at c5
  replace c5 := Lib.hid c5; replace h2 := Lib.hid h2; replace hF := Lib.hid hF
  go_wp2_with fail
  refine c5.out.mono ?_
  rintro e w3 ⟨rfl, k3, s3⟩
  have hS3 := h2.out.sink k3 (Next.refl _ _) ⟨s3, h2.out.pen.room, h2.out.pen.col, h2.out.pen.ind⟩
  have hno1 : ¬ Own s vs w.heap.size := fun e => by have := h.out.pen.sk.lt _ e; omega
  have hno2 : ¬ Own s vs W1.heap.size := fun e => by have := h.out.pen.sk.lt _ e; have := hz1.out; omega
  have hD3 := hD2.kept k3 hno1
  have hB3 := hB2.kept k3 hno2
  have hbz : base ≤ w.heap.size := by have := h.out.ls; have := h.out.pen.sk.blk.lt; omega
  have hq3 : Below base w w3 := (hq02.mono hbz).trans hS3.2
  have h3 := hS3.1
  have m0 := hD3.cell 0; have m1 := hD3.cell 1; have m2 := hD3.cell 2; have m3 := hD3.cell 3; have m4 := hD3.cell 4
  have l0 := hB3.cell 0; have l1 := hB3.cell 1; have l2 := hB3.cell 2
  have y0 := h3.blk.cell 0; have y1 := h3.blk.cell 1; have y2 := h3.blk.cell 2; have y3 := h3.blk.cell 3; have y4 := h3.blk.cell 4
  have z2 := h3.blk.frozen 2; have z3 := h3.blk.frozen 3; have z4 := h3.blk.frozen 4
  simp at m0 m1 m2 m3 m4 l0 l1 l2 y0 y1 y2 y3 y4
  rw [hT.out] at y2
  have hzw3 := hq3.size
  replace h3 := Lib.hid h3; replace hD3 := Lib.hid hD3; replace hB3 := Lib.hid hB3; replace hq3 := Lib.hid hq3
  clear hS3 k3 s3 c5 h2 hq02 hq2 hq1 v1 hB2 hD2 h1
  by_cases k1 : k = 1
  · subst k1
    have hz := hq'.out
    have hz2 : prStep W b r ⟨1, t, db, dn, de⟩ wide ⟨p, b :: r, pr, em⟩ = ⟨dPn ⟨1, false, t, 0⟩ p, b :: r, true, false⟩ := by unfold prStep; simp
    rw [hz2] at hz; subst hz
    clear hq' hz2
    have hTw3 : Tabs w3.drew := hTb.low (hq3.out.drew) hg1 hg2
    have hls := h.out.ls
    have c6 := pen_Text s vs p U t w3.drew ⟨h3.out.pen.sk.drew, h3.out.pen.room, h3.out.pen.col, h3.out.pen.ind⟩ hU hTw3 (by omega) (by omega)
    replace c6 := Lib.hid c6
    go_wp2_with fail
    go_region_held3 (fun w' => w'.cell? ⟨pb, 1, none⟩ = some (.pointer (some ⟨s, 0, none⟩)) ∧ w'.cell? ⟨w.heap.size, 1, none⟩ = some (.string t)) (first | exact ⟨r0, r1⟩ | go_keep) ((go_at_call 12; refine c6.out.mono ?_; rintro e w4 ⟨rfl, vs4, P4, n4, k4⟩; have k4' : Kept (Own s vs) w3 w4 := ⟨k4.os, k4.tape, k4.output, k4.size, k4.block⟩; have r0 := cell_kept y1 k4' h3.out.d1; have r1 := cell_kept m1 k4' hno1; have hS4 := h3.out.sink k4' n4 P4; have y3 := hS4.1.blk.cell 3; have y4 := hS4.1.blk.cell 4; have z3 := hS4.1.blk.frozen 3; have z4 := hS4.1.blk.frozen 4; simp at y3 y4))
    have hS5 := hS4.1.put3 true
    have hS6 := hS5.1.put4 false
    have hfin := ((hq3.out.trans hS4.2).trans hS5.2).trans hS6.2
    have hS7 := hS6.1
    replace hS4 := Lib.hid hS4; replace hS5 := Lib.hid hS5; replace hS6 := Lib.hid hS6; replace hS7 := Lib.hid hS7; replace hfin := Lib.hid hfin
    go_wp2_with fail
    first | go_end0 | refine bodyPost_ret (results_none rfl _ _ _) rfl ?_
    exact ⟨rfl, ⟨_, _, hS7.out.mono (by omega)⟩, hfin.out⟩
  by_cases k7 : k = 7
  · subst k7
    have hz := hq'.out
    have hz2 : prStep W b r ⟨7, t, db, dn, de⟩ wide ⟨p, b :: r, pr, em⟩ = ⟨p, r, pr, em⟩ := by unfold prStep; simp
    rw [hz2] at hz; subst hz
    clear hq' hz2
    have hcp := h3.out.cap
    rw [hT.out] at hcp
    have hc1 : (T : Int) ≤ cap := by omega
    have hrow : w3.ownsRow base TK 3 (.slice (some ⟨g, 0, none⟩) r.length cap) r.length (rowOf r) := ownsRow_pop (last := b.cells) (rowOf_len r) (by have := h3.out.row; simpa [rowOf] using this)
    have hP4 := (h3.out.put2 (vb' := .slice (some ⟨g, 0, none⟩) r.length cap) hrow (fun k hk => h3.out.d2 k hk))
    rw [hT.out] at hP4
    replace hP4 := Lib.hid hP4; replace hrow := Lib.hid hrow
    go_wp2_with fail
    go_region_with (fail)
    all_goals
      go_wp2_with fail
      first | go_end0 | refine bodyPost_ret (results_none rfl _ _ _) rfl ?_
      have hb6 := hq3.out.trans hP4.out.2
      exact ⟨rfl, ⟨_, _, (hP4.out.1.mono (by omega)).drew⟩, hb6.drew⟩
  by_cases k5 : k = 5
  · subst k5
    cases F
    · have hpf : p.f = true := by have := hF.out; simpa using this
      have hz := hq'.out
      have hz2 : prStep W b r ⟨5, t, db, dn, de⟩ wide ⟨p, b :: r, pr, em⟩ = ⟨p, b :: r, pr, em⟩ := by unfold prStep; simp [hpf]
      rw [hz2] at hz; subst hz
      clear hq' hz2
      go_wp2_with fail
      first | go_end0 | refine bodyPost_ret (results_none rfl _ _ _) rfl ?_
      exact ⟨rfl, ⟨_, _, h3.out.mono (by omega)⟩, hq3.out⟩
    · have hpf : p.f = false := by have := hF.out; simpa using this
      cases pr
      · have hz := hq'.out
        have hz2 : prStep W b r ⟨5, t, db, dn, de⟩ wide ⟨p, b :: r, false, em⟩ = ⟨p, b :: r, false, em⟩ := by unfold prStep; simp []
        rw [hz2] at hz; subst hz
        clear hq' hz2
        go_wp2_with fail
        first | go_end0 | refine bodyPost_ret (results_none rfl _ _ _) rfl ?_
        exact ⟨rfl, ⟨_, _, h3.out.mono (by omega)⟩, hq3.out⟩
      · cases em
        · have hz := hq'.out
          have hz2 : prStep W b r ⟨5, t, db, dn, de⟩ wide ⟨p, b :: r, true, false⟩ = ⟨dPn ⟨4, false, ⟨#[]⟩, 0⟩ p, b :: r, true, true⟩ := by unfold prStep; simp [hpf]
          rw [hz2] at hz; subst hz
          clear hq' hz2
          replace hpf := Lib.hid hpf
          go_wp2_with fail
          refine (pen_Empty s vs p U w3 h3.out.pen (by omega)).mono ?_
          rintro e w4 ⟨rfl, vs4, P4, n4, k4⟩
          have hS4 := h3.out.sink k4 n4 P4
          have hS5 := hS4.1.put4 true
          have y4 := hS4.1.blk.cell 4; have z4 := hS4.1.blk.frozen 4
          simp at y4
          have hfin := (hq3.out.trans hS4.2).trans hS5.2
          have hS7 := hS5.1
          replace hS4 := Lib.hid hS4; replace hS5 := Lib.hid hS5; replace hS7 := Lib.hid hS7; replace hfin := Lib.hid hfin
          go_wp2_with fail
          first | go_end0 | refine bodyPost_ret (results_none rfl _ _ _) rfl ?_
          exact ⟨rfl, ⟨_, _, hS7.out.mono (by omega)⟩, hfin.out⟩
        · have hz := hq'.out
          have hz2 : prStep W b r ⟨5, t, db, dn, de⟩ wide ⟨p, b :: r, true, true⟩ = ⟨p, b :: r, true, true⟩ := by unfold prStep; simp []
          rw [hz2] at hz; subst hz
          clear hq' hz2
          go_wp2_with fail
          first | go_end0 | refine bodyPost_ret (results_none rfl _ _ _) rfl ?_
          exact ⟨rfl, ⟨_, _, h3.out.mono (by omega)⟩, hq3.out⟩
  have k6 := h6
  have hk1 : ((k : Int) == 1) = false := by simp; omega
  have hk5 : ((k : Int) == 5) = false := by simp; omega
  have hk6 : ((k : Int) == 6) = false := by simp; omega
  have hk7 : ((k : Int) == 7) = false := by simp; omega
  cases F
  · have hpf : p.f = true := by have := hF.out; simpa using this
    have hP4 := h3.out.put4 false
    obtain ⟨W4, hW4⟩ : ∃ W4, w3.setCell ⟨pb, 4, none⟩ (.bool false) = W4 := ⟨_, rfl⟩
    have hk34 : Kept (fun i => i = pb) w3 W4 := by rw [← hW4]; exact (Kept.refl (fun i => i = pb) w3).setCell ⟨pb, 4, none⟩ _ rfl
    rw [hW4] at hP4
    have hnpb : ∀ i, w.heap.size ≤ i → ¬ i = pb := fun i hi e => by have := h.out.blk.lt; omega
    have hW1z := hz1.out
    have l0 := cell_kept l0 hk34 (hnpb _ (by omega)); have l1 := cell_kept l1 hk34 (hnpb _ (by omega)); have l2 := cell_kept l2 hk34 (hnpb _ (by omega))
    have m0 := cell_kept m0 hk34 (hnpb _ (Nat.le_refl _)); have m2 := cell_kept m2 hk34 (hnpb _ (Nat.le_refl _))
    have y1' := hP4.1.blk.cell 1
    simp at y1'
    have hq4 := hq3.out.trans hP4.2
    have hlow : ∀ w5 vs5, Kept (Own s vs) W4 w5 → Next W4 vs vs5 → True := fun _ _ _ _ => trivial
    clear hlow
    have hcb : 0 ≤ p.col ∧ p.col ≤ 68719476736 := by have := h.out.pen.room; have := h.out.pen.col; have := h.out.pen.ind; unfold Pn.col; split <;> omega
    replace hP4 := Lib.hid hP4; replace hq4 := Lib.hid hq4; replace hpf := Lib.hid hpf; replace hk34 := Lib.hid hk34; replace hW1z := Lib.hid hW1z
    obtain ⟨bi, hbi'⟩ : ∃ n : Nat, b.i = n := ⟨b.i.toNat, by omega⟩
    rw [hbi'] at l0
    by_cases k4 : k = 4
    · subst k4
      have hz := hq'.out
      have hz2 : prStep W b r ⟨4, t, db, dn, de⟩ wide ⟨p, b :: r, pr, em⟩ = ⟨dPn ⟨3, false, ⟨#[]⟩, b.i⟩ p, b :: r, pr, false⟩ := by unfold prStep endsB; simp [hpf.out]
      rw [hz2, hbi'] at hz; subst hz
      clear hq' hz2
      have c6 := pen_Feed s vs p U bi W4.drew ⟨hP4.out.1.pen.sk.drew, hP4.out.1.pen.room, hP4.out.1.pen.col, hP4.out.1.pen.ind⟩ (by omega) (by omega)
      replace c6 := Lib.hid c6; replace hbi' := Lib.hid hbi'
      go_wp2_with fail
      go_region_held3 (fun w' => w'.cell? ⟨pb, 1, none⟩ = some (.pointer (some ⟨s, 0, none⟩)) ∧ w'.cell? ⟨W1.heap.size, 0, none⟩ = some (.int .i64 bi)) (first | exact ⟨r0, r1⟩ | go_keep) ((go_at_call 14; refine c6.out.mono ?_; rintro e w5 ⟨rfl, vs5, P5, n5, k5⟩; have k5' : Kept (Own s vs) W4 w5 := ⟨k5.os, k5.tape, k5.output, k5.size, k5.block⟩; have r0 := cell_kept y1' k5' hP4.out.1.d1; have r1 := cell_kept l0 k5' hno2; have hS5 := hP4.out.1.sink k5' n5 P5))
      have hfin := hq4.out.trans hS5.2
      have hS7 := hS5.1
      replace hS5 := Lib.hid hS5; replace hS7 := Lib.hid hS7; replace hfin := Lib.hid hfin
      go_wp2_with fail
      first | go_end0 | refine bodyPost_ret (results_none rfl _ _ _) rfl ?_
      have hbi2 : bi ≤ 1000 := by have := hbi'.out; omega
      exact ⟨rfl, ⟨_, _, hS7.out.mono (by omega)⟩, hfin.out⟩
    by_cases k2 : k = 2
    · subst k2
      have hz := hq'.out
      have hz2 : prStep W b r ⟨2, t, db, dn, de⟩ wide ⟨p, b :: r, pr, em⟩ = ⟨dPn ⟨2, false, ⟨#[]⟩, 1⟩ p, b :: r, pr, false⟩ := by unfold prStep endsB; simp [hpf.out]
      rw [hz2] at hz; subst hz
      clear hq' hz2
      have c6 := pen_Blanks s vs p U 1 W4 hP4.out.1.pen (by omega) (by omega)
      replace c6 := Lib.hid c6; replace hbi' := Lib.hid hbi'
      go_wp2_with fail
      refine c6.out.mono ?_
      rintro e w6 ⟨rfl, P6, k6'⟩
      have hS6 := hP4.out.1.sink k6' (Next.refl _ _) P6
      have hfin := hq4.out.trans hS6.2
      have hS7 := hS6.1
      replace hS6 := Lib.hid hS6; replace hS7 := Lib.hid hS7; replace hfin := Lib.hid hfin
      go_wp2_with fail
      first | go_end0 | refine bodyPost_ret (results_none rfl _ _ _) rfl ?_
      exact ⟨rfl, ⟨_, _, hS7.out.mono (by omega)⟩, hfin.out⟩
    by_cases k3 : k = 3
    · subst k3
      obtain ⟨bf, hbf⟩ : ∃ x, b.f = x := ⟨_, rfl⟩
      obtain ⟨be, hbe⟩ : ∃ x, b.e = x := ⟨_, rfl⟩
      rw [hbf] at l2; rw [hbe] at l1
      cases bf
      · cases be
        · by_cases hwr : W - p.col < wide
          · have c5 := press_Room base pb s vs _ p U W (b :: r) pr false W4 hP4.out.1 (by omega) hW
            replace c5 := Lib.hid c5
            have hz := hq'.out
            have hz2 : prStep W b r ⟨3, t, db, dn, de⟩ wide ⟨p, b :: r, pr, em⟩ = ⟨dPn ⟨3, false, ⟨#[]⟩, b.i⟩ p, b :: r, pr, false⟩ := by unfold prStep endsB; simp [hpf.out, hbf, hbe, hwr]
            rw [hz2, hbi'] at hz; subst hz
            clear hq' hz2
            replace hbf := Lib.hid hbf; replace hbe := Lib.hid hbe
            go_wp2_with fail
            refine c5.out.mono ?_
            rintro e w5 ⟨rfl, hP5, kr⟩
            have hq5 := hq4.out.trans (hP4.out.1.sink kr (Next.refl _ _) ⟨hP5.pen.sk, hP5.pen.room, hP5.pen.col, hP5.pen.ind⟩).2
            have x1 := hP5.blk.cell 1
            simp at x1
            have l0' := cell_kept l0 kr hno2
            have m0' := cell_kept m0 kr hno1; have m2' := cell_kept m2 kr hno1
            replace hP5 := Lib.hid hP5; replace hq5 := Lib.hid hq5; replace kr := Lib.hid kr
            have c6 := pen_Feed s vs p U bi w5.drew ⟨hP5.out.pen.sk.drew, hP5.out.pen.room, hP5.out.pen.col, hP5.out.pen.ind⟩ (by omega) (by omega)
            replace c6 := Lib.hid c6; replace hbi' := Lib.hid hbi'
            go_wp2_with fail
            go_region_held3 (fun w' => w'.cell? ⟨pb, 1, none⟩ = some (.pointer (some ⟨s, 0, none⟩)) ∧ w'.cell? ⟨W1.heap.size, 0, none⟩ = some (.int .i64 bi)) (first | exact ⟨r0, r1⟩ | go_keep) ((go_at_call 14; refine c6.out.mono ?_; rintro e w6 ⟨rfl, vs6, P6, n6, k6'⟩; have k6'' : Kept (Own s vs) w5 w6 := ⟨k6'.os, k6'.tape, k6'.output, k6'.size, k6'.block⟩; have r0 := cell_kept x1 k6'' hP5.out.d1; have r1 := cell_kept l0' k6'' hno2; have hS6 := hP5.out.sink k6'' n6 P6))
            have hfin := hq5.out.trans hS6.2
            have hS7 := hS6.1
            replace hS6 := Lib.hid hS6; replace hS7 := Lib.hid hS7; replace hfin := Lib.hid hfin
            go_wp2_with fail
            first | go_end0 | refine bodyPost_ret (results_none rfl _ _ _) rfl ?_
            have hbi2 : bi ≤ 1000 := by have := hbi'.out; omega
            exact ⟨rfl, ⟨_, _, hS7.out.mono (by omega)⟩, hfin.out⟩
          · have c5 := press_Room base pb s vs _ p U W (b :: r) pr false W4 hP4.out.1 (by omega) hW
            replace c5 := Lib.hid c5
            have hz := hq'.out
            have hz2 : prStep W b r ⟨3, t, db, dn, de⟩ wide ⟨p, b :: r, pr, em⟩ = ⟨dPn ⟨2, false, ⟨#[]⟩, db⟩ p, b :: r, pr, false⟩ := by unfold prStep endsB; simp [hpf.out, hbf, hbe, hwr]
            rw [hz2] at hz; subst hz
            clear hq' hz2
            replace hbf := Lib.hid hbf; replace hbe := Lib.hid hbe; replace hbi' := Lib.hid hbi'
            go_wp2_with fail
            refine c5.out.mono ?_
            rintro e w5 ⟨rfl, hP5, kr⟩
            have hq5 := hq4.out.trans (hP4.out.1.sink kr (Next.refl _ _) ⟨hP5.pen.sk, hP5.pen.room, hP5.pen.col, hP5.pen.ind⟩).2
            have x1 := hP5.blk.cell 1
            simp at x1
            have l0' := cell_kept l0 kr hno2
            have m0' := cell_kept m0 kr hno1; have m2' := cell_kept m2 kr hno1
            replace hP5 := Lib.hid hP5; replace hq5 := Lib.hid hq5; replace kr := Lib.hid kr
            have c6 := pen_Blanks s vs p U db w5.drew ⟨hP5.out.pen.sk.drew, hP5.out.pen.room, hP5.out.pen.col, hP5.out.pen.ind⟩ (by omega) (by omega)
            replace c6 := Lib.hid c6
            go_wp2_with fail
            go_region_held3 (fun w' => w'.cell? ⟨pb, 1, none⟩ = some (.pointer (some ⟨s, 0, none⟩)) ∧ w'.cell? ⟨w.heap.size, 2, none⟩ = some (.int .i64 db)) (first | exact ⟨r0, r1⟩ | go_keep) ((go_at_call 13; refine c6.out.mono ?_; rintro e w6 ⟨rfl, P6, k6'⟩; have k6'' : Kept (Own s vs) w5 w6 := ⟨k6'.os, k6'.tape, k6'.output, k6'.size, k6'.block⟩; have r0 := cell_kept x1 k6'' hP5.out.d1; have r1 := cell_kept m2' k6'' hno1; have hS6 := hP5.out.sink k6'' (Next.refl _ _) P6))
            have hfin := hq5.out.trans hS6.2
            have hS7 := hS6.1
            replace hS6 := Lib.hid hS6; replace hS7 := Lib.hid hS7; replace hfin := Lib.hid hfin
            go_wp2_with fail
            first | go_end0 | refine bodyPost_ret (results_none rfl _ _ _) rfl ?_
            exact ⟨rfl, ⟨_, _, hS7.out.mono (by omega)⟩, hfin.out⟩
        · have hz := hq'.out
          have hz2 : prStep W b r ⟨3, t, db, dn, de⟩ wide ⟨p, b :: r, pr, em⟩ = ⟨dPn ⟨3, false, ⟨#[]⟩, b.i⟩ p, b :: r, pr, false⟩ := by unfold prStep endsB; simp [hpf.out, hbf, hbe]
          rw [hz2, hbi'] at hz; subst hz
          clear hq' hz2
          replace hbf := Lib.hid hbf; replace hbe := Lib.hid hbe
          have c6 := pen_Feed s vs p U bi W4.drew ⟨hP4.out.1.pen.sk.drew, hP4.out.1.pen.room, hP4.out.1.pen.col, hP4.out.1.pen.ind⟩ (by omega) (by omega)
          replace c6 := Lib.hid c6; replace hbi' := Lib.hid hbi'
          go_wp2_with fail
          go_region_held3 (fun w' => w'.cell? ⟨pb, 1, none⟩ = some (.pointer (some ⟨s, 0, none⟩)) ∧ w'.cell? ⟨W1.heap.size, 0, none⟩ = some (.int .i64 bi)) (first | exact ⟨r0, r1⟩ | go_keep) ((go_at_call 14; refine c6.out.mono ?_; rintro e w6 ⟨rfl, vs6, P6, n6, k6'⟩; have k6'' : Kept (Own s vs) W4 w6 := ⟨k6'.os, k6'.tape, k6'.output, k6'.size, k6'.block⟩; have r0 := cell_kept y1' k6'' hP4.out.1.d1; have r1 := cell_kept l0 k6'' hno2; have hS6 := hP4.out.1.sink k6'' n6 P6))
          have hfin := hq4.out.trans hS6.2
          have hS7 := hS6.1
          replace hS6 := Lib.hid hS6; replace hS7 := Lib.hid hS7; replace hfin := Lib.hid hfin
          go_wp2_with fail
          first | go_end0 | refine bodyPost_ret (results_none rfl _ _ _) rfl ?_
          have hbi2 : bi ≤ 1000 := by have := hbi'.out; omega
          exact ⟨rfl, ⟨_, _, hS7.out.mono (by omega)⟩, hfin.out⟩
      · have hz := hq'.out
        have hz2 : prStep W b r ⟨3, t, db, dn, de⟩ wide ⟨p, b :: r, pr, em⟩ = ⟨dPn ⟨2, false, ⟨#[]⟩, db⟩ p, b :: r, pr, false⟩ := by unfold prStep endsB; simp [hpf.out, hbf]
        rw [hz2] at hz; subst hz
        clear hq' hz2
        replace hbf := Lib.hid hbf; replace hbe := Lib.hid hbe; replace hbi' := Lib.hid hbi'
        have c6 := pen_Blanks s vs p U db W4.drew ⟨hP4.out.1.pen.sk.drew, hP4.out.1.pen.room, hP4.out.1.pen.col, hP4.out.1.pen.ind⟩ (by omega) (by omega)
        replace c6 := Lib.hid c6
        go_wp2_with fail
        go_region_held3 (fun w' => w'.cell? ⟨pb, 1, none⟩ = some (.pointer (some ⟨s, 0, none⟩)) ∧ w'.cell? ⟨w.heap.size, 2, none⟩ = some (.int .i64 db)) (first | exact ⟨r0, r1⟩ | go_keep) ((go_at_call 13; refine c6.out.mono ?_; rintro e w6 ⟨rfl, P6, k6'⟩; have k6'' : Kept (Own s vs) W4 w6 := ⟨k6'.os, k6'.tape, k6'.output, k6'.size, k6'.block⟩; have r0 := cell_kept y1' k6'' hP4.out.1.d1; have r1 := cell_kept m2 k6'' hno1; have hS6 := hP4.out.1.sink k6'' (Next.refl _ _) P6))
        have hfin := hq4.out.trans hS6.2
        have hS7 := hS6.1
        replace hS6 := Lib.hid hS6; replace hS7 := Lib.hid hS7; replace hfin := Lib.hid hfin
        go_wp2_with fail
        first | go_end0 | refine bodyPost_ret (results_none rfl _ _ _) rfl ?_
        exact ⟨rfl, ⟨_, _, hS7.out.mono (by omega)⟩, hfin.out⟩
    have hk2 : ((k : Int) == 2) = false := by simp; omega
    have hk3 : ((k : Int) == 3) = false := by simp; omega
    have hk4 : ((k : Int) == 4) = false := by simp; omega
    have hz := hq'.out
    have hz2 : prStep W b r ⟨k, t, db, dn, de⟩ wide ⟨p, b :: r, pr, em⟩ = ⟨dPn ⟨2, false, ⟨#[]⟩, db⟩ p, b :: r, pr, false⟩ := by unfold prStep endsB; simp [hpf.out, k1, k2, k3, k4, k5, k6, k7]
    rw [hz2] at hz; subst hz
    clear hq' hz2
    replace hbi' := Lib.hid hbi'
    have c6 := pen_Blanks s vs p U db W4.drew ⟨hP4.out.1.pen.sk.drew, hP4.out.1.pen.room, hP4.out.1.pen.col, hP4.out.1.pen.ind⟩ (by omega) (by omega)
    replace c6 := Lib.hid c6
    go_wp2_with fail
    go_region_held3 (fun w' => w'.cell? ⟨pb, 1, none⟩ = some (.pointer (some ⟨s, 0, none⟩)) ∧ w'.cell? ⟨w.heap.size, 2, none⟩ = some (.int .i64 db)) (first | exact ⟨r0, r1⟩ | go_keep) ((go_at_call 13; refine c6.out.mono ?_; rintro e w6 ⟨rfl, P6, k6'⟩; have k6'' : Kept (Own s vs) W4 w6 := ⟨k6'.os, k6'.tape, k6'.output, k6'.size, k6'.block⟩; have r0 := cell_kept y1' k6'' hP4.out.1.d1; have r1 := cell_kept m2 k6'' hno1; have hS6 := hP4.out.1.sink k6'' (Next.refl _ _) P6))
    have hfin := hq4.out.trans hS6.2
    have hS7 := hS6.1
    replace hS6 := Lib.hid hS6; replace hS7 := Lib.hid hS7; replace hfin := Lib.hid hfin
    go_wp2_with fail
    first | go_end0 | refine bodyPost_ret (results_none rfl _ _ _) rfl ?_
    exact ⟨rfl, ⟨_, _, hS7.out.mono (by omega)⟩, hfin.out⟩
  · have hpf : p.f = false := by have := hF.out; simpa using this
    have hz := hq'.out
    have hz2 : prStep W b r ⟨k, t, db, dn, de⟩ wide ⟨p, b :: r, pr, em⟩ = ⟨p, b :: r, pr, em⟩ := by unfold prStep; simp [k1, k5, k6, k7, hpf]
    rw [hz2] at hz; subst hz
    clear hq' hz2
    go_wp2_with fail
    first | go_end0 | refine bodyPost_ret (results_none rfl _ _ _) rfl ?_
    exact ⟨rfl, ⟨_, _, h3.out.mono (by omega)⟩, hq3.out⟩
end Go.Proofs.YtphcmbdmkhmfbaaDoor
