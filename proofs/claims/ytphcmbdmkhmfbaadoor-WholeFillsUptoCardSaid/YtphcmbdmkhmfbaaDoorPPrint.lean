/- press.Print at a Begin: a block more. press.Print: one piece printed. -/
import Derived.Test.YtphcmbdmkhmfbaaDoorPress
import Derived.Deep.RegionHeld3
import Derived.Test.YtphcmbdmkhmfbaaDoorGrow
import Derived.Deep.RegionLaw
namespace Go.Proofs.YtphcmbdmkhmfbaaDoor
open Go.RowKit Go.Lib
set_option linter.unusedVariables false
set_option linter.unusedSimpArgs false
theorem add_zero_off (g n : Nat) : (⟨g, 0, none⟩ : Addr).add n = ⟨g, n, none⟩ := by unfold Addr.add; split <;> simp_all
theorem Prs.top {w : World} {base pb s : Nat} {vs vb : Value} {p : Pn} {U : Nat} {W : Int} {b : Bk} {r : List Bk} {pr em : Bool} (h : Prs w base pb s vs vb p U W (b :: r) pr em) :
    ∃ g cap, vb = .slice (some ⟨g, 0, none⟩) (r.length + 1) cap ∧ w.cell? ⟨g, r.length * 3, none⟩ = some (.int .i64 b.i) ∧ w.cell? ⟨g, r.length * 3 + 1, none⟩ = some (.bool b.e) ∧ w.cell? ⟨g, r.length * 3 + 2, none⟩ = some (.bool b.f) := by
  rcases h.row.2 with ⟨_, h2⟩ | ⟨g, cap, cur, h1, h2, h3, h4⟩
  · simp at h2
  · refine ⟨g, cap, by simpa using h1, ?_, ?_, ?_⟩
    · have := World.ownsRow.cells h.row (g := g) (by rw [h1]; rfl) (r.length * 3) _ (rowOf_top b r 0 _ rfl); rw [add_zero_off] at this; exact this
    · have := World.ownsRow.cells h.row (g := g) (by rw [h1]; rfl) (r.length * 3 + 1) _ (rowOf_top b r 1 _ rfl); rw [add_zero_off] at this; exact this
    · have := World.ownsRow.cells h.row (g := g) (by rw [h1]; rfl) (r.length * 3 + 2) _ (rowOf_top b r 2 _ rfl); rw [add_zero_off] at this; exact this
theorem Tabs.low {B : Nat} {w w' : World} (h : Tabs w) (k : Below B w w') (h1 : 0 < B) (h2 : 1 < B) : Tabs w' :=
  ⟨fun j v hj => (k.cell (p := ⟨_, _, none⟩) h1).trans (h.1 j v hj), fun j v hj => (k.cell (p := ⟨_, _, none⟩) h2).trans (h.2 j v hj)⟩
/-- What a press holds. -/
structure Ps where
  p : Pn
  st : List Bk
  pr : Bool
  em : Bool
/-- Does a piece end the line? -/
def endsB (W : Int) (b : Bk) (d : DocV) (wide col : Int) : Bool := decide (d.k = 4) || (decide (d.k = 3) && !b.f && (b.e || decide (W - col < wide)))
def prStep (W : Int) (b : Bk) (r : List Bk) (d : DocV) (wide : Int) (q : Ps) : Ps :=
  if d.k = 6 then ⟨q.p, ⟨min (b.i + d.n) 1000, d.e, decide (wide ≤ W - q.p.col)⟩ :: b :: r, q.pr, q.em⟩
  else if d.k = 7 then ⟨q.p, r, q.pr, q.em⟩
  else if d.k = 5 then (if q.p.f = false ∧ q.pr = true ∧ q.em = false then ⟨dPn ⟨4, false, ⟨#[]⟩, 0⟩ q.p, b :: r, q.pr, true⟩ else ⟨q.p, b :: r, q.pr, q.em⟩)
  else if d.k = 1 then ⟨dPn ⟨1, false, d.t, 0⟩ q.p, b :: r, true, false⟩
  else if q.p.f = false then ⟨q.p, b :: r, q.pr, q.em⟩
  else if endsB W b d wide q.p.col = true then ⟨dPn ⟨3, false, ⟨#[]⟩, b.i⟩ q.p, b :: r, q.pr, false⟩
  else ⟨dPn ⟨2, false, ⟨#[]⟩, if d.k = 2 then 1 else d.b⟩ q.p, b :: r, q.pr, false⟩
theorem Prs.drew {w : World} {base pb s : Nat} {vs vb : Value} {p : Pn} {U : Nat} {W : Int} {st : List Bk} {pr em : Bool} (h : Prs w base pb s vs vb p U W st pr em) : Prs w.drew base pb s vs vb p U W st pr em := ⟨h.blk, ⟨h.pen.sk.drew, h.pen.room, h.pen.col, h.pen.ind⟩, h.row, h.d1, h.d2, h.lp, h.ls⟩
theorem Prs.mono {w : World} {base pb s : Nat} {vs vb : Value} {p : Pn} {U U' : Nat} {W : Int} {st : List Bk} {pr em : Bool} (h : Prs w base pb s vs vb p U W st pr em) (hU : U ≤ U') : Prs w base pb s vs vb p U' W st pr em := ⟨h.blk, h.pen.mono hU, h.row, h.d1, h.d2, h.lp, h.ls⟩
theorem Prs.put3 {w : World} {base pb s : Nat} {vs vb : Value} {p : Pn} {U : Nat} {W : Int} {st : List Bk} {pr em : Bool} (h : Prs w base pb s vs vb p U W st pr em) (c : Bool) : Prs (w.setCell ⟨pb, 3, none⟩ (.bool c)) base pb s vs vb p U W st c em ∧ Below base w (w.setCell ⟨pb, 3, none⟩ (.bool c)) := by
  have k : Kept (fun i => i = pb) w (w.setCell ⟨pb, 3, none⟩ (.bool c)) := (Kept.refl (fun i => i = pb) w).setCell ⟨pb, 3, none⟩ _ rfl
  refine ⟨⟨by have := h.blk.set 3 (.bool c); simpa using this, ⟨⟨h.pen.sk.blk.kept k (fun e => h.d1 (.inl e.symm)), h.pen.sk.buf.kept k (fun i hi e => h.d1 (.inr (by rw [hi, e])))⟩, h.pen.room, h.pen.col, h.pen.ind⟩, ⟨h.row.1, ?_⟩, h.d1, h.d2, h.lp, h.ls⟩, (Below.refl _ _).setCell h.lp _⟩
  rcases h.row.2 with h2 | ⟨g, cap, cur, h1, h2, h3, h4⟩
  · exact .inl h2
  · exact .inr ⟨g, cap, cur, h1, h2, (k.block g (Array.getElem?_eq_some_iff.1 h3).1 (h.d2 g (by rw [h1]; rfl)).1).trans h3, h4⟩
theorem Prs.put4 {w : World} {base pb s : Nat} {vs vb : Value} {p : Pn} {U : Nat} {W : Int} {st : List Bk} {pr em : Bool} (h : Prs w base pb s vs vb p U W st pr em) (c : Bool) : Prs (w.setCell ⟨pb, 4, none⟩ (.bool c)) base pb s vs vb p U W st pr c ∧ Below base w (w.setCell ⟨pb, 4, none⟩ (.bool c)) := by
  have k : Kept (fun i => i = pb) w (w.setCell ⟨pb, 4, none⟩ (.bool c)) := (Kept.refl (fun i => i = pb) w).setCell ⟨pb, 4, none⟩ _ rfl
  refine ⟨⟨by have := h.blk.set 4 (.bool c); simpa using this, ⟨⟨h.pen.sk.blk.kept k (fun e => h.d1 (.inl e.symm)), h.pen.sk.buf.kept k (fun i hi e => h.d1 (.inr (by rw [hi, e])))⟩, h.pen.room, h.pen.col, h.pen.ind⟩, ⟨h.row.1, ?_⟩, h.d1, h.d2, h.lp, h.ls⟩, (Below.refl _ _).setCell h.lp _⟩
  rcases h.row.2 with h2 | ⟨g, cap, cur, h1, h2, h3, h4⟩
  · exact .inl h2
  · exact .inr ⟨g, cap, cur, h1, h2, (k.block g (Array.getElem?_eq_some_iff.1 h3).1 (h.d2 g (by rw [h1]; rfl)).1).trans h3, h4⟩
/-- Another row of blocks. -/
theorem Prs.put2 {w : World} {base pb s : Nat} {vs vb vb' : Value} {p : Pn} {U : Nat} {W : Int} {st st' : List Bk} {pr em : Bool} (h : Prs w base pb s vs vb p U W st pr em) (hr : w.ownsRow base TK 3 vb' st'.length (rowOf st')) (hd : ∀ k, vb'.ownBlock = some k → k ≠ pb ∧ ¬ Own s vs k) : Prs (w.setCell ⟨pb, 2, none⟩ vb') base pb s vs vb' p U W st' pr em ∧ Below base w (w.setCell ⟨pb, 2, none⟩ vb') := by
  have k : Kept (fun i => i = pb) w (w.setCell ⟨pb, 2, none⟩ vb') := (Kept.refl (fun i => i = pb) w).setCell ⟨pb, 2, none⟩ _ rfl
  refine ⟨⟨by have := h.blk.set 2 vb'; simpa using this, ⟨⟨h.pen.sk.blk.kept k (fun e => h.d1 (.inl e.symm)), h.pen.sk.buf.kept k (fun i hi e => h.d1 (.inr (by rw [hi, e])))⟩, h.pen.room, h.pen.col, h.pen.ind⟩, ⟨hr.1, ?_⟩, h.d1, hd, h.lp, h.ls⟩, (Below.refl _ _).setCell h.lp _⟩
  rcases hr.2 with h2 | ⟨g, cap, cur, h1, h2, h3, h4⟩
  · exact .inl h2
  · exact .inr ⟨g, cap, cur, h1, h2, (k.block g (Array.getElem?_eq_some_iff.1 h3).1 (hd g (by rw [h1]; rfl)).1).trans h3, h4⟩
theorem Prs.cap {w : World} {base pb s : Nat} {vs : Value} {g n cap : Nat} {p : Pn} {U : Nat} {W : Int} {st : List Bk} {pr em : Bool} (h : Prs w base pb s vs (.slice (some ⟨g, 0, none⟩) n cap) p U W st pr em) : n ≤ cap ∧ cap ≤ maxLen := by
  rcases h.row.2 with ⟨e, _⟩ | ⟨g', cap', cur, h1, h2, h3, h4, h5, _⟩
  · cases e
  · cases h1; exact ⟨h4, h5⟩
/-- A block more: the row grown, and stored. -/
theorem Prs.append {w w' : World} {base pb s : Nat} {vs vb vb' : Value} {p : Pn} {U : Nat} {W : Int} {st st' : List Bk} {pr em : Bool} (h : Prs w base pb s vs vb p U W st pr em) (hb : base ≤ w.heap.size) (hv : w'.ownsRow base TK 3 vb' st'.length (rowOf st')) (hg : w.grownBy w' vb.ownBlock) (hn : Next w vb vb') :
    Prs (w'.setCell ⟨pb, 2, none⟩ vb') base pb s vs vb' p U W st' pr em ∧ Below base w (w'.setCell ⟨pb, 2, none⟩ vb') ∧ Blk w' pb #[.int .i64 W, .pointer (some ⟨s, 0, none⟩), vb, .bool pr, .bool em] TP := by
  have k : Kept (fun i => vb.ownBlock = some i) w w' := ⟨hg.os, hg.tape, hg.output, hg.size, fun i hi hn => hg.block i hi (fun e => hn e.symm)⟩
  have hB := h.blk.kept k (fun e => (h.d2 pb e).1 rfl)
  have hS : S7 w' s vs p.l p.f p.x p.y p.z := ⟨h.pen.sk.blk.kept k (fun e => (h.d2 _ e).2 (.inl rfl)), h.pen.sk.buf.kept k (fun i hi e => (h.d2 i e).2 (.inr hi))⟩
  have hd : ∀ k, vb'.ownBlock = some k → k ≠ pb ∧ ¬ Own s vs k := fun i hi => by
    rcases hn i hi with e | e
    · exact h.d2 i e
    · have := h.blk.lt
      exact ⟨by omega, fun e2 => by have := h.pen.sk.lt i e2; omega⟩
  have k2 : Kept (fun i => i = pb) w' (w'.setCell ⟨pb, 2, none⟩ vb') := (Kept.refl (fun i => i = pb) w').setCell ⟨pb, 2, none⟩ _ rfl
  have hlo : Below base w w' := k.below hb (fun i e => by
    rcases h.row.2 with ⟨e1, _⟩ | ⟨g, cap, cur, h1, h2, h3, h4⟩
    · rw [e1] at e; cases e
    · rw [h1] at e; cases e; exact h2)
  refine ⟨⟨by have := hB.set 2 vb'; simpa using this, ⟨⟨hS.blk.kept k2 (fun e => h.d1 (.inl e.symm)), hS.buf.kept k2 (fun i hi e => h.d1 (.inr (by rw [hi, e])))⟩, h.pen.room, h.pen.col, h.pen.ind⟩, ⟨hv.1, ?_⟩, h.d1, hd, h.lp, h.ls⟩, hlo.setCell h.lp _, hB⟩
  rcases hv.2 with h2 | ⟨g, cap, cur, h1, h2, h3, h4⟩
  · exact .inl h2
  · exact .inr ⟨g, cap, cur, h1, h2, (k2.block g (Array.getElem?_eq_some_iff.1 h3).1 (hd g (by rw [h1]; rfl)).1).trans h3, h4⟩
theorem new_bk (w : World) (b : Bk) (j : Nat) (u : Value) (h : b.cells[j]? = some u) : (w.alloc (.cells #[.int .i64 b.i, .bool b.e, .bool b.f] TK)).cell? ((⟨w.heap.size, 0, none⟩ : Addr).add j) = some u := by
  rw [add_zero_off, (Blk.new w #[.int .i64 b.i, .bool b.e, .bool b.f] TK).cell j]
  simpa [Bk.cells] using h
theorem infoK : (Tryd.prog.info? TK).map (fun i => (i.zero, i.size, i.bytes)) = some (some (.agg #[.int .i64 0, .bool false, .bool false]), 3, 16) := by kernel_rfl
/-- append(row, block) as a step of a region that draws its order; and where the row lies. -/
theorem step_blk {ops : Array Oper} {o : Oper} {a : Act} {w : World} {K : Act → World → Prop} {Q : Exit → Act → World → Prop} {E : Prop}
    (hg : o.guard = none) (s x : Operand) (ho : o.op = .call { callee := .builtin .append, args := #[s, x], argTypes := #[113, 113] }) (B : Nat) {v : Value} {st : List Bk} (hs : a.eval s = v) (b : Bk)
    (hown : w.ownsRow B TK 3 v st.length (rowOf st)) (ad : Addr) (hx : a.eval x = .slice (some ad) 1 1) (hc : ∀ j u, b.cells[j]? = some u → w.cell? (ad.add j) = some u) (hsz : st.length ≤ 4194304) (hB : B ≤ w.heap.size)
    (h : ∀ v' w', w'.ownsRow B TK 3 v' (b :: st).length (rowOf (b :: st)) → w.grownBy w' v.ownBlock → Next w v v' → K (a.put o.dst v') w') :
    if Region.wanted o (yielded ops a.tmps) = true then Oper.wp Tryd.prog o a w K Q else E := by
  have hw : Region.wanted o (yielded ops a.tmps) = true := by simp [Region.wanted, hg]
  rw [if_pos hw]
  obtain ⟨i0, hi, hz0, hz1, hz2⟩ := info_parts infoK
  obtain ⟨v', w', hr, h2, h3, _, h4⟩ := run_append_own_at (P := Tryd.prog) (w := w) B 113 o.type TK i0 (.agg #[.int .i64 0, .bool false, .bool false]) 3 16 Tryd.underlying113 hi hz0 hz1 hz2 rfl (by decide) v st.length (rowOf st) hown ad 1 1 b.cells rfl hc (by simp [Bk.cells, Value.oneCell']) (by unfold maxLen; omega) (by omega) hB
  unfold Oper.wp execOp
  simp only [ho, resolve, invoke, builtin, Sem.run_bind, Sem.run_pure, Result.andThen_ok, List.map_toArray, List.map_cons, List.map_nil, hs, hx, hr]
  refine h v' w' h2 h3 (fun k hk => ?_)
  rcases h4 with h4 | h4
  · exact .inl (h4 ▸ hk)
  · rw [h4] at hk; injection hk with hk; exact .inr (by omega)

set_option maxHeartbeats 4000000 in
set_option maxRecDepth 100000 in
theorem press_Begin (base pb s : Nat) (vs vb : Value) (p : Pn) (U : Nat) (W : Int) (b : Bk) (r : List Bk) (pr em : Bool) (d : DocV) (hk6 : d.k = 6) (hdn : 0 ≤ d.n ∧ d.n ≤ 1000) (wide : Int) (w : World) (h : Prs w base pb s vs vb p U W (b :: r) pr em) (hU : U + d.t.size ≤ 17179869184) (hW : 0 ≤ W ∧ W ≤ 4096) (hr : r.length ≤ 2097152) (hbi : 0 ≤ b.i ∧ b.i ≤ 1000) (hdb : 0 ≤ d.b ∧ d.b ≤ 1000) :
    Calls Tryd.prog 54 #[.pointer (some ⟨pb, 0, none⟩), d.agg, .int .i64 wide] w fun e w' => e = .returned (.tuple #[]) ∧ (∃ vs' vb', Prs w' base pb s vs' vb' (prStep W b r d wide ⟨p, b :: r, pr, em⟩).p (U + d.t.size + 1001) W (prStep W b r d wide ⟨p, b :: r, pr, em⟩).st (prStep W b r d wide ⟨p, b :: r, pr, em⟩).pr (prStep W b r d wide ⟨p, b :: r, pr, em⟩).em) ∧ Below base w w' := by
  obtain ⟨g, cap, rfl, t0, t1, t2⟩ := h.top
  have q2 := h.blk.cell 2; have q1 := h.blk.cell 1
  simp at q1 q2
  obtain ⟨k, t, db, dn, de⟩ := d
  unfold DocV.agg
  simp only at hU hdb hk6 hdn ⊢
  replace hk6 := Lib.hid hk6
  obtain ⟨q', hq'⟩ : ∃ q', prStep W b r ⟨k, t, db, dn, de⟩ wide ⟨p, b :: r, pr, em⟩ = q' := ⟨_, rfl⟩
  rw [hq']
  replace hq' := Lib.hid hq'
  obtain ⟨W1, hW1⟩ : ∃ W1, w.alloc (.cells #[.int .u8 k, .string t, .int .i64 db, .int .i64 dn, .bool de] 47) = W1 := ⟨_, rfl⟩
  have hq1 : Below w.heap.size w W1 := by rw [← hW1]; exact (Below.refl _ _).alloc (Nat.le_refl _) _
  have hB1 : Blk W1 w.heap.size #[.int .u8 k, .string t, .int .i64 db, .int .i64 dn, .bool de] 47 := by rw [← hW1]; exact Blk.new _ _ _
  have h1 := h.below hq1
  have hz1 : W1.heap.size = w.heap.size + 1 := by rw [← hW1]; simp
  obtain ⟨T, hT⟩ : ∃ T, r.length = T := ⟨_, rfl⟩
  rw [hT] at t0 t1 t2
  have g0 := hq1.cell (p := ⟨g, T * 3, none⟩) (cell_lt t0); have g1 := hq1.cell (p := ⟨g, T * 3 + 1, none⟩) (cell_lt t0); have g2 := hq1.cell (p := ⟨g, T * 3 + 2, none⟩) (cell_lt t0)
  rw [t0] at g0; rw [t1] at g1; rw [t2] at g2
  have u1 := h1.blk.cell 1; have u2 := h1.blk.cell 2
  simp at u1 u2
  rw [hT] at u2
  have hgl := cell_lt g0
  have hwT : IntKind.i64.wrap (((T + 1 : Nat) : Int) - 1) = (T : Int) := by rw [show ((T + 1 : Nat) : Int) - 1 = T by omega]; exact IntWalk.i64_in _ (by omega)
  have hwT2 : IntKind.i64.wrap (T : Int) = (T : Int) := IntWalk.i64_in _ (by omega)
  have hwT3 : IntKind.i64.wrap ((T : Int) + 1 - 1) = (T : Int) := by rw [Int.add_sub_cancel]; exact hwT2
  have hT3 : (T : Int) < (T : Int) + 1 := by omega
  have hT1 : (T : Int) < ((T + 1 : Nat) : Int) := by omega
  have hT2 : (0 : Int) ≤ T := by omega
  have n0 := World.new_ne W1 _ u2
  have n1 := World.new_ne W1 _ g0
  replace h := Lib.hid h; replace h1 := Lib.hid h1; replace hT := Lib.hid hT; replace hz1 := Lib.hid hz1
  clear t0 t1 t2 q1 q2
  go_enter Tryd.func54, Tryd.ntmps54
  go_wp2_with fail
  go_region_held3 (fun w' => w'.cell? ⟨pb, 2, none⟩ = some (.slice (some ⟨g, 0, none⟩) (T + 1) cap) ∧ w'.cell? ⟨g, T * 3, none⟩ = some (.int .i64 b.i) ∧ w'.cell? ⟨g, T * 3 + 1, none⟩ = some (.bool b.e) ∧ w'.cell? ⟨g, T * 3 + 2, none⟩ = some (.bool b.f)) (go_keep) (fail)
  obtain ⟨W2, hW2⟩ : ∃ W2, (W1.alloc (.cells #[.int .i64 b.i, .bool b.e, .bool b.f] TK)).drew = W2 := ⟨_, rfl⟩
  rw [hW2]
  have hq2 : Below W1.heap.size W1 W2 := by rw [← hW2]; exact ((Below.refl _ _).alloc (Nat.le_refl _) _).drew
  have hB2 : Blk W2 W1.heap.size #[.int .i64 b.i, .bool b.e, .bool b.f] TK := by rw [← hW2]; exact (Blk.new _ _ _).drew
  have hD2 : Blk W2 w.heap.size #[.int .u8 k, .string t, .int .i64 db, .int .i64 dn, .bool de] 47 := hB1.below' hq2
  have h2 := h1.out.below hq2
  have hq02 : Below w.heap.size w W2 := hq1.trans (hq2.mono hq1.size)
  have v1 := h2.blk.cell 1
  simp at v1
  clear hW2 n0 n1 u1 u2 g0 g1 g2
  have c5 := sk_Fresh s vs p.l p.f p.x p.y p.z W2 h2.pen.sk
  obtain ⟨F, hF⟩ : ∃ F : Bool, (!p.f) = F := ⟨_, rfl⟩
  rw [hF] at c5
  replace c5 := Lib.hid c5; replace h2 := Lib.hid h2; replace hF := Lib.hid hF
  go_wp2_with fail
  refine c5.out.mono ?_
  rintro e w3 ⟨rfl, k3, s3⟩
  have hS3 := h2.out.sink k3 (Next.refl _ _) ⟨s3, h2.out.pen.room, h2.out.pen.col, h2.out.pen.ind⟩
  have hno1 : ¬ Own s vs w.heap.size := fun e => by have := h.out.pen.sk.lt _ e; omega
  have hno2 : ¬ Own s vs W1.heap.size := fun e => by have := h.out.pen.sk.lt _ e; have := hz1.out; omega
  have hD3 := hD2.kept k3 hno1
  have hB3 := hB2.kept k3 hno2
  have hbz : base ≤ w.heap.size := by have := h.out.ls; have := h.out.pen.sk.blk.lt; omega
  have hq3 : Below base w w3 := (hq02.mono hbz).trans hS3.2
  have h3 := hS3.1
  have m0 := hD3.cell 0; have m1 := hD3.cell 1; have m2 := hD3.cell 2; have m3 := hD3.cell 3; have m4 := hD3.cell 4
  have l0 := hB3.cell 0; have l1 := hB3.cell 1; have l2 := hB3.cell 2
  have y0 := h3.blk.cell 0; have y1 := h3.blk.cell 1; have y2 := h3.blk.cell 2; have y3 := h3.blk.cell 3; have y4 := h3.blk.cell 4
  have z2 := h3.blk.frozen 2; have z3 := h3.blk.frozen 3; have z4 := h3.blk.frozen 4
  simp at m0 m1 m2 m3 m4 l0 l1 l2 y0 y1 y2 y3 y4
  rw [hT.out] at y2
  have hzw3 := hq3.size
  replace h3 := Lib.hid h3; replace hD3 := Lib.hid hD3; replace hB3 := Lib.hid hB3; replace hq3 := Lib.hid hq3
  clear hS3 k3 s3 c5 h2 hq02 hq2 hq1 v1 hB2 hD2 h1
  have hk6' := hk6.out
  subst hk6'
  have hls := h.out.ls
  have hcb : 0 ≤ p.col ∧ p.col ≤ 68719476736 := by have := h.out.pen.room; have := h.out.pen.col; have := h.out.pen.ind; unfold Pn.col; split <;> omega
  have hwa : IntKind.i64.wrap (b.i + dn) = b.i + dn := IntWalk.i64_in _ (by omega)
  have c5 := press_Room base pb s vs _ p U W (b :: r) pr em w3.drew h3.out.drew (by omega) hW
  replace c5 := Lib.hid c5
  have hz := hq'.out
  have hz2 : prStep W b r ⟨6, t, db, dn, de⟩ wide ⟨p, b :: r, pr, em⟩ = ⟨p, ⟨min (b.i + dn) 1000, de, decide (wide ≤ W - p.col)⟩ :: b :: r, pr, em⟩ := by unfold prStep; simp
  rw [hz2] at hz; subst hz
  clear hq' hz2
  go_wp2_with fail
  refine wp_region_late (fun w' => w'.cell? ⟨pb, 2, none⟩ = some (.slice (some ⟨g, 0, none⟩) (T + 1) cap) ∧ w'.cell? ⟨W1.heap.size, 0, none⟩ = some (.int .i64 b.i) ∧ w'.cell? ⟨w.heap.size, 3, none⟩ = some (.int .i64 dn) ∧ w'.cell? ⟨w.heap.size, 4, none⟩ = some (.bool de)) 22 (by kernel_rfl) (by first | go_keep | (dsimp only; go_keep)) (fun hHeld => ?_)
  refine wpLate_take (i := 0) (v := ?_) rfl (by kernel_rfl) (fun _ _ _ h => h) (Or.inl ⟨by rfl, ?_⟩) hHeld ?_
  rotate_left
  · (intro w hSw; (try dsimp only at hSw); go_simp; try with_reducible rfl)
  simp only [Act.put, List.setIfInBounds_toArray, List.set_cons_zero, List.set_cons_succ]
  refine wpLate_take (i := 1) (v := ?_) rfl (by kernel_rfl) (fun _ _ _ h => h) (Or.inl ⟨by rfl, ?_⟩) hHeld ?_
  rotate_left
  · (intro w hSw; (try dsimp only at hSw); go_simp; try with_reducible rfl)
  simp only [Act.put, List.setIfInBounds_toArray, List.set_cons_zero, List.set_cons_succ]
  refine wpLate_take (i := 2) (v := ?_) rfl (by kernel_rfl) (fun _ _ _ h => h) (Or.inl ⟨by rfl, ?_⟩) hHeld ?_
  rotate_left
  · (intro w hSw; (try dsimp only at hSw); go_simp; try with_reducible rfl)
  simp only [Act.put, List.setIfInBounds_toArray, List.set_cons_zero, List.set_cons_succ]
  refine wpLate_take (i := 3) (v := ?_) rfl (by kernel_rfl) (fun _ _ _ h => h) (Or.inl ⟨by rfl, ?_⟩) hHeld ?_
  rotate_left
  · (intro w hSw; (try dsimp only at hSw); go_simp; try with_reducible rfl)
  simp only [Act.put, List.setIfInBounds_toArray, List.set_cons_zero, List.set_cons_succ]
  refine wpLate_take (i := 4) (v := ?_) rfl (by kernel_rfl) (fun _ _ _ h => h) (Or.inl ⟨by rfl, ?_⟩) hHeld ?_
  rotate_left
  · (intro w hSw; (try dsimp only at hSw); go_simp; try with_reducible rfl)
  simp only [Act.put, List.setIfInBounds_toArray, List.set_cons_zero, List.set_cons_succ]
  refine wpLate_take (i := 5) (v := ?_) rfl (by kernel_rfl) (fun _ _ _ h => h) (Or.inl ⟨by rfl, ?_⟩) hHeld ?_
  rotate_left
  · (intro w hSw; (try dsimp only at hSw); go_simp; try with_reducible rfl)
  simp only [Act.put, List.setIfInBounds_toArray, List.set_cons_zero, List.set_cons_succ]
  refine wpLate_take (i := 6) (v := ?_) rfl (by kernel_rfl) (fun _ _ _ h => h) (Or.inl ⟨by rfl, ?_⟩) hHeld ?_
  rotate_left
  · (intro w hSw; (try dsimp only at hSw); go_simp; try with_reducible rfl)
  simp only [Act.put, List.setIfInBounds_toArray, List.set_cons_zero, List.set_cons_succ]
  refine wpLate_take (i := 7) (v := ?_) rfl (by kernel_rfl) (fun _ _ _ h => h) (Or.inl ⟨by rfl, ?_⟩) hHeld ?_
  rotate_left
  · (intro w hSw; (try dsimp only at hSw); go_simp; try with_reducible rfl)
  simp only [Act.put, List.setIfInBounds_toArray, List.set_cons_zero, List.set_cons_succ]
  refine wpLate_take (i := 8) (v := ?_) rfl (by kernel_rfl) (fun _ _ _ h => h) (Or.inl ⟨by rfl, ?_⟩) hHeld ?_
  rotate_left
  · (intro w hSw; (try dsimp only at hSw); go_simp; try with_reducible rfl)
  simp only [Act.put, List.setIfInBounds_toArray, List.set_cons_zero, List.set_cons_succ]
  refine wpLate_take (i := 9) (v := ?_) rfl (by kernel_rfl) (fun _ _ _ h => h) (Or.inl ⟨by rfl, ?_⟩) hHeld ?_
  rotate_left
  · (intro w hSw; (try dsimp only at hSw); go_simp; try with_reducible rfl)
  simp only [Act.put, List.setIfInBounds_toArray, List.set_cons_zero, List.set_cons_succ]
  refine wpLate_take (i := 10) (v := ?_) rfl (by kernel_rfl) (fun _ _ _ h => h) (Or.inl ⟨by rfl, ?_⟩) hHeld ?_
  rotate_left
  · (intro w hSw; (try dsimp only at hSw); go_simp; try with_reducible rfl)
  simp only [Act.put, List.setIfInBounds_toArray, List.set_cons_zero, List.set_cons_succ]
  refine wpLate_take (i := 11) (v := ?_) rfl (by kernel_rfl) (fun _ _ _ h => h) (Or.inl ⟨by rfl, ?_⟩) hHeld ?_
  rotate_left
  · (intro w hSw; (try dsimp only at hSw); go_simp; try with_reducible rfl)
  simp only [Act.put, List.setIfInBounds_toArray, List.set_cons_zero, List.set_cons_succ]
  refine wpLate_take (i := 12) (v := ?_) rfl (by kernel_rfl) (fun _ _ _ h => h) (Or.inl ⟨by rfl, ?_⟩) hHeld ?_
  rotate_left
  · (intro w hSw; (try dsimp only at hSw); go_simp; try with_reducible rfl)
  simp only [Act.put, List.setIfInBounds_toArray, List.set_cons_zero, List.set_cons_succ]
  refine wpLate_take (i := 13) (v := ?_) rfl (by kernel_rfl) (fun _ _ _ h => h) (Or.inl ⟨by rfl, ?_⟩) hHeld ?_
  rotate_left
  · (intro w hSw; (try dsimp only at hSw); go_simp; try with_reducible rfl)
  simp only [Act.put, List.setIfInBounds_toArray, List.set_cons_zero, List.set_cons_succ]
  refine wpLate_take (i := 14) (v := ?_) rfl (by kernel_rfl) (fun _ _ _ h => h) (Or.inl ⟨by rfl, ?_⟩) hHeld ?_
  rotate_left
  · (intro w hSw; (try dsimp only at hSw); go_simp; try with_reducible rfl)
  simp only [Act.put, List.setIfInBounds_toArray, List.set_cons_zero, List.set_cons_succ]
  refine wpLate_step (i := 15) (by kernel_rfl) rfl (fun K hK => ?_)
  go_simp
  go_at_call 75
  refine c5.out.mono ?_
  rintro e w4 ⟨rfl, hP4, k4⟩
  have k4' : Kept (Own s vs) w3 w4 := ⟨k4.os, k4.tape, k4.output, k4.size, k4.block⟩
  have l0' := cell_kept l0 k4' hno2
  have m3' := cell_kept m3 k4' hno1; have m4' := cell_kept m4 k4' hno1
  have y2' := hP4.blk.cell 2
  simp at y2'
  rw [hT.out] at y2'
  have hrowA := hP4.row
  rw [hT.out] at hrowA
  have hbw4 : base ≤ w4.heap.size := by have := hP4.pen.sk.blk.lt; omega
  replace hrowA := Lib.hid hrowA; replace hP4 := Lib.hid hP4; replace k4' := Lib.hid k4'
  clear k4
  refine hK.out _ _ ?_ (fun hHeld => ?_)
  · first | exact ⟨y2', l0', m3', m4'⟩ | (dsimp only; exact ⟨y2', l0', m3', m4'⟩)
  clear hK K
  try simp only [Act.put, List.setIfInBounds_toArray, List.set_cons_zero, List.set_cons_succ]
  refine wpLate_take (i := 16) (v := ?_) rfl (by kernel_rfl) (fun _ _ _ h => h) (Or.inl ⟨by rfl, ?_⟩) hHeld ?_
  rotate_left
  · (intro w hSw; (try dsimp only at hSw); go_simp; try with_reducible rfl)
  simp only [Act.put, List.setIfInBounds_toArray, List.set_cons_zero, List.set_cons_succ]
  refine wpLate_take (i := 17) (v := ?_) rfl (by kernel_rfl) (fun _ _ _ h => h) (Or.inl ⟨by rfl, ?_⟩) hHeld ?_
  rotate_left
  · (intro w hSw; (try dsimp only at hSw); go_simp; try with_reducible rfl)
  simp only [Act.put, List.setIfInBounds_toArray, List.set_cons_zero, List.set_cons_succ]
  refine wpLate_step (i := 18) (by kernel_rfl) rfl (fun K hK => ?_)
  go_simp
  refine hK.out _ _ ?_ (fun hHeld => ?_)
  · first | go_keep | (dsimp only; go_keep)
  clear hK K
  try simp only [Act.put, List.setIfInBounds_toArray, List.set_cons_zero, List.set_cons_succ]
  refine wpLate_step (i := 19) (by kernel_rfl) rfl (fun K hK => ?_)
  refine step_blk rfl (.tmp 34) (.tmp 48) rfl base (by first | rfl | simp [Act.eval, Act.put]) ⟨min (b.i + dn) 1000, de, decide (wide ≤ W - p.col)⟩ (World.ownsRow.alloc hrowA.out _) ⟨w4.heap.size, 0, none⟩ (by first | rfl | simp [Act.eval, Act.put]) (fun j u hj => new_bk w4 ⟨min (b.i + dn) 1000, de, decide (wide ≤ W - p.col)⟩ j u hj) (by simp; omega) (by simp; omega) ?_
  intro vb' w6 hv6 hg6 hn6
  obtain ⟨va6, vc6, rfl⟩ := ownsRow_shape hv6
  have hP6 := (hP4.out.below ((Below.refl _ _).alloc (Nat.le_refl _) _)).append (by simp; omega) hv6 hg6 hn6
  have kA := kept_of_grown hg6
  have hA : Below w4.heap.size w4 (w4.alloc (.cells #[.int .i64 (min (b.i + dn) 1000), .bool de, .bool (decide (wide ≤ W - p.col))] TK)) := (Below.refl _ _).alloc (Nat.le_refl _) _
  have lA := (hA.cell (p := ⟨W1.heap.size, 0, none⟩) (cell_lt l0')).trans l0'
  have mA := (hA.cell (p := ⟨w.heap.size, 3, none⟩) (cell_lt m3')).trans m3'
  have mB := (hA.cell (p := ⟨w.heap.size, 4, none⟩) (cell_lt m4')).trans m4'
  have hgw := hz1.out
  have hgk : ∀ i, w.heap.size ≤ i → ¬ (Value.slice (some ⟨g, 0, none⟩) (T + 1) cap).ownBlock = some i := fun i hi e => by
    have : g = i := by simpa [Value.ownBlock] using e
    subst this
    have h2 := h.out.row
    rcases h2.2 with ⟨e1, _⟩ | ⟨g', cap', cur, h1, h2, h3, h4⟩
    · cases e1
    · cases h1
      have := (Array.getElem?_eq_some_iff.1 h3).1
      omega
  have lB := cell_kept lA kA (hgk _ (by omega))
  have mC := cell_kept mA kA (hgk _ (Nat.le_refl _)); have mD := cell_kept mB kA (hgk _ (Nat.le_refl _))
  have y6 := hP6.2.2.cell 2
  have z6 := hP6.2.2.frozen 2
  simp at y6
  rw [hT.out] at y6
  replace hP6 := Lib.hid hP6
  clear hv6 hg6 hn6 kA hA lA mA mB
  refine hK.out _ _ ?_ (fun hHeld => ?_)
  · first | exact ⟨y6, lB, mC, mD⟩ | (dsimp only; exact ⟨y6, lB, mC, mD⟩)
  clear hK K
  try simp only [Act.put, List.setIfInBounds_toArray, List.set_cons_zero, List.set_cons_succ]
  refine wpLate_take (i := 20) (v := ?_) rfl (by kernel_rfl) (fun _ _ _ h => h) (Or.inl ⟨by rfl, ?_⟩) hHeld ?_
  rotate_left
  · (intro w hSw; (try dsimp only at hSw); go_simp; try with_reducible rfl)
  simp only [Act.put, List.setIfInBounds_toArray, List.set_cons_zero, List.set_cons_succ]
  refine wpLate_take (i := 21) (v := ?_) rfl (by kernel_rfl) (fun _ _ _ h => h) (Or.inl ⟨by rfl, ?_⟩) hHeld ?_
  rotate_left
  · (intro w hSw; (try dsimp only at hSw); go_simp; try with_reducible rfl)
  simp only [Act.put, List.setIfInBounds_toArray, List.set_cons_zero, List.set_cons_succ]
  refine wpLate_last (by kernel_rfl) rfl (by kernel_rfl) (fun K hK => ?_)
  go_simp
  refine hK.out _ _ ?_
  clear hK K
  have hkb : Below base w3 w4 := k4'.out.below (by omega) (fun i e => by have := h3.out.pen.sk.ge i e; omega)
  have hfin := (hq3.out.trans hkb).trans ((Below.refl base w4).alloc hbw4 (.cells #[.int .i64 (min (b.i + dn) 1000), .bool de, .bool (decide (wide ≤ W - p.col))] TK))
  have hfin2 := hfin.trans hP6.out.2.1
  replace hfin2 := Lib.hid hfin2
  clear hfin hkb
  go_wp2_with fail
  first | go_end0 | refine bodyPost_ret (results_none rfl _ _ _) rfl ?_
  exact ⟨rfl, ⟨_, _, hP6.out.1.mono (by omega)⟩, hfin2.out⟩
end Go.Proofs.YtphcmbdmkhmfbaaDoor
namespace Go.Proofs.YtphcmbdmkhmfbaaDoor
open Go.RowKit Go.Lib
set_option maxHeartbeats 2000000 in
set_option maxRecDepth 100000 in
theorem press_Print (base pb s : Nat) (vs vb : Value) (p : Pn) (U : Nat) (W : Int) (b : Bk) (r : List Bk) (pr em : Bool) (d : DocV) (wide : Int) (w : World) (h : Prs w base pb s vs vb p U W (b :: r) pr em) (hU : U + d.t.size ≤ 17179869184) (hW : 0 ≤ W ∧ W ≤ 4096) (hr : r.length ≤ 2097152) (hbi : 0 ≤ b.i ∧ b.i ≤ 1000) (hdb : 0 ≤ d.b ∧ d.b ≤ 1000) (hdn : 0 ≤ d.n ∧ d.n ≤ 1000) (hTb : Tabs w) (hg1 : 0 < base) (hg2 : 1 < base) :
    Calls Tryd.prog 54 #[.pointer (some ⟨pb, 0, none⟩), d.agg, .int .i64 wide] w fun e w' => e = .returned (.tuple #[]) ∧ (∃ vs' vb', Prs w' base pb s vs' vb' (prStep W b r d wide ⟨p, b :: r, pr, em⟩).p (U + d.t.size + 1001) W (prStep W b r d wide ⟨p, b :: r, pr, em⟩).st (prStep W b r d wide ⟨p, b :: r, pr, em⟩).pr (prStep W b r d wide ⟨p, b :: r, pr, em⟩).em) ∧ Below base w w' := by
  by_cases h6 : d.k = 6
  · exact press_Begin base pb s vs vb p U W b r pr em d h6 hdn wide w h hU hW hr hbi hdb
  obtain ⟨g, cap, rfl, t0, t1, t2⟩ := h.top
  have q2 := h.blk.cell 2; have q1 := h.blk.cell 1
  simp at q1 q2
  obtain ⟨k, t, db, dn, de⟩ := d
  unfold DocV.agg
  simp only at hU hdb hdn h6 ⊢
  obtain ⟨q', hq'⟩ : ∃ q', prStep W b r ⟨k, t, db, dn, de⟩ wide ⟨p, b :: r, pr, em⟩ = q' := ⟨_, rfl⟩
  rw [hq']
  replace hq' := Lib.hid hq'
  clear hdn
  obtain ⟨W1, hW1⟩ : ∃ W1, w.alloc (.cells #[.int .u8 k, .string t, .int .i64 db, .int .i64 dn, .bool de] 47) = W1 := ⟨_, rfl⟩
  have hq1 : Below w.heap.size w W1 := by rw [← hW1]; exact (Below.refl _ _).alloc (Nat.le_refl _) _
  have hB1 : Blk W1 w.heap.size #[.int .u8 k, .string t, .int .i64 db, .int .i64 dn, .bool de] 47 := by rw [← hW1]; exact Blk.new _ _ _
  have h1 := h.below hq1
  have hz1 : W1.heap.size = w.heap.size + 1 := by rw [← hW1]; simp
  obtain ⟨T, hT⟩ : ∃ T, r.length = T := ⟨_, rfl⟩
  rw [hT] at t0 t1 t2
  have g0 := hq1.cell (p := ⟨g, T * 3, none⟩) (cell_lt t0); have g1 := hq1.cell (p := ⟨g, T * 3 + 1, none⟩) (cell_lt t0); have g2 := hq1.cell (p := ⟨g, T * 3 + 2, none⟩) (cell_lt t0)
  rw [t0] at g0; rw [t1] at g1; rw [t2] at g2
  have u1 := h1.blk.cell 1; have u2 := h1.blk.cell 2
  simp at u1 u2
  rw [hT] at u2
  have hgl := cell_lt g0
  have hwT : IntKind.i64.wrap (((T + 1 : Nat) : Int) - 1) = (T : Int) := by rw [show ((T + 1 : Nat) : Int) - 1 = T by omega]; exact IntWalk.i64_in _ (by omega)
  have hwT2 : IntKind.i64.wrap (T : Int) = (T : Int) := IntWalk.i64_in _ (by omega)
  have hwT3 : IntKind.i64.wrap ((T : Int) + 1 - 1) = (T : Int) := by rw [Int.add_sub_cancel]; exact hwT2
  have hT3 : (T : Int) < (T : Int) + 1 := by omega
  have hT1 : (T : Int) < ((T + 1 : Nat) : Int) := by omega
  have hT2 : (0 : Int) ≤ T := by omega
  have n0 := World.new_ne W1 _ u2
  have n1 := World.new_ne W1 _ g0
  replace h := Lib.hid h; replace h1 := Lib.hid h1; replace hT := Lib.hid hT; replace hz1 := Lib.hid hz1
  clear t0 t1 t2 q1 q2
  go_enter Tryd.func54, Tryd.ntmps54
  go_wp2_with fail
  go_region_held3 (fun w' => w'.cell? ⟨pb, 2, none⟩ = some (.slice (some ⟨g, 0, none⟩) (T + 1) cap) ∧ w'.cell? ⟨g, T * 3, none⟩ = some (.int .i64 b.i) ∧ w'.cell? ⟨g, T * 3 + 1, none⟩ = some (.bool b.e) ∧ w'.cell? ⟨g, T * 3 + 2, none⟩ = some (.bool b.f)) (go_keep) (fail)
  obtain ⟨W2, hW2⟩ : ∃ W2, (W1.alloc (.cells #[.int .i64 b.i, .bool b.e, .bool b.f] TK)).drew = W2 := ⟨_, rfl⟩
  rw [hW2]
  have hq2 : Below W1.heap.size W1 W2 := by rw [← hW2]; exact ((Below.refl _ _).alloc (Nat.le_refl _) _).drew
  have hB2 : Blk W2 W1.heap.size #[.int .i64 b.i, .bool b.e, .bool b.f] TK := by rw [← hW2]; exact (Blk.new _ _ _).drew
  have hD2 : Blk W2 w.heap.size #[.int .u8 k, .string t, .int .i64 db, .int .i64 dn, .bool de] 47 := hB1.below' hq2
  have h2 := h1.out.below hq2
  have hq02 : Below w.heap.size w W2 := hq1.trans (hq2.mono hq1.size)
  have v1 := h2.blk.cell 1
  simp at v1
  clear hW2 n0 n1 u1 u2 g0 g1 g2
  have c5 := sk_Fresh s vs p.l p.f p.x p.y p.z W2 h2.pen.sk
  obtain ⟨F, hF⟩ : ∃ F : Bool, (!p.f) = F := ⟨_, rfl⟩
  rw [hF] at c5
  replace c5 := Lib.hid c5; replace h2 := Lib.hid h2; replace hF := Lib.hid hF
  go_wp2_with fail
  refine c5.out.mono ?_
  rintro e w3 ⟨rfl, k3, s3⟩
  have hS3 := h2.out.sink k3 (Next.refl _ _) ⟨s3, h2.out.pen.room, h2.out.pen.col, h2.out.pen.ind⟩
  have hno1 : ¬ Own s vs w.heap.size := fun e => by have := h.out.pen.sk.lt _ e; omega
  have hno2 : ¬ Own s vs W1.heap.size := fun e => by have := h.out.pen.sk.lt _ e; have := hz1.out; omega
  have hD3 := hD2.kept k3 hno1
  have hB3 := hB2.kept k3 hno2
  have hbz : base ≤ w.heap.size := by have := h.out.ls; have := h.out.pen.sk.blk.lt; omega
  have hq3 : Below base w w3 := (hq02.mono hbz).trans hS3.2
  have h3 := hS3.1
  have m0 := hD3.cell 0; have m1 := hD3.cell 1; have m2 := hD3.cell 2; have m3 := hD3.cell 3; have m4 := hD3.cell 4
  have l0 := hB3.cell 0; have l1 := hB3.cell 1; have l2 := hB3.cell 2
  have y0 := h3.blk.cell 0; have y1 := h3.blk.cell 1; have y2 := h3.blk.cell 2; have y3 := h3.blk.cell 3; have y4 := h3.blk.cell 4
  have z2 := h3.blk.frozen 2; have z3 := h3.blk.frozen 3; have z4 := h3.blk.frozen 4
  simp at m0 m1 m2 m3 m4 l0 l1 l2 y0 y1 y2 y3 y4
  rw [hT.out] at y2
  have hzw3 := hq3.size
  replace h3 := Lib.hid h3; replace hD3 := Lib.hid hD3; replace hB3 := Lib.hid hB3; replace hq3 := Lib.hid hq3
  clear hS3 k3 s3 c5 h2 hq02 hq2 hq1 v1 hB2 hD2 h1
  by_cases k1 : k = 1
  · subst k1
    have hz := hq'.out
    have hz2 : prStep W b r ⟨1, t, db, dn, de⟩ wide ⟨p, b :: r, pr, em⟩ = ⟨dPn ⟨1, false, t, 0⟩ p, b :: r, true, false⟩ := by unfold prStep; simp
    rw [hz2] at hz; subst hz
    clear hq' hz2
    have hTw3 : Tabs w3.drew := hTb.low (hq3.out.drew) hg1 hg2
    have hls := h.out.ls
    have c6 := pen_Text s vs p U t w3.drew ⟨h3.out.pen.sk.drew, h3.out.pen.room, h3.out.pen.col, h3.out.pen.ind⟩ hU hTw3 (by omega) (by omega)
    replace c6 := Lib.hid c6
    go_wp2_with fail
    go_region_held3 (fun w' => w'.cell? ⟨pb, 1, none⟩ = some (.pointer (some ⟨s, 0, none⟩)) ∧ w'.cell? ⟨w.heap.size, 1, none⟩ = some (.string t)) (first | exact ⟨r0, r1⟩ | go_keep) ((go_at_call 12; refine c6.out.mono ?_; rintro e w4 ⟨rfl, vs4, P4, n4, k4⟩; have k4' : Kept (Own s vs) w3 w4 := ⟨k4.os, k4.tape, k4.output, k4.size, k4.block⟩; have r0 := cell_kept y1 k4' h3.out.d1; have r1 := cell_kept m1 k4' hno1; have hS4 := h3.out.sink k4' n4 P4; have y3 := hS4.1.blk.cell 3; have y4 := hS4.1.blk.cell 4; have z3 := hS4.1.blk.frozen 3; have z4 := hS4.1.blk.frozen 4; simp at y3 y4))
    have hS5 := hS4.1.put3 true
    have hS6 := hS5.1.put4 false
    have hfin := ((hq3.out.trans hS4.2).trans hS5.2).trans hS6.2
    have hS7 := hS6.1
    replace hS4 := Lib.hid hS4; replace hS5 := Lib.hid hS5; replace hS6 := Lib.hid hS6; replace hS7 := Lib.hid hS7; replace hfin := Lib.hid hfin
    go_wp2_with fail
    first | go_end0 | refine bodyPost_ret (results_none rfl _ _ _) rfl ?_
    exact ⟨rfl, ⟨_, _, hS7.out.mono (by omega)⟩, hfin.out⟩
  by_cases k7 : k = 7
  · subst k7
    have hz := hq'.out
    have hz2 : prStep W b r ⟨7, t, db, dn, de⟩ wide ⟨p, b :: r, pr, em⟩ = ⟨p, r, pr, em⟩ := by unfold prStep; simp
    rw [hz2] at hz; subst hz
    clear hq' hz2
    have hcp := h3.out.cap
    rw [hT.out] at hcp
    have hc1 : (T : Int) ≤ cap := by omega
    have hrow : w3.ownsRow base TK 3 (.slice (some ⟨g, 0, none⟩) r.length cap) r.length (rowOf r) := ownsRow_pop (last := b.cells) (rowOf_len r) (by have := h3.out.row; simpa [rowOf] using this)
    have hP4 := (h3.out.put2 (vb' := .slice (some ⟨g, 0, none⟩) r.length cap) hrow (fun k hk => h3.out.d2 k hk))
    rw [hT.out] at hP4
    replace hP4 := Lib.hid hP4; replace hrow := Lib.hid hrow
    go_wp2_with fail
    go_region_with (fail)
    all_goals
      go_wp2_with fail
      first | go_end0 | refine bodyPost_ret (results_none rfl _ _ _) rfl ?_
      have hb6 := hq3.out.trans hP4.out.2
      exact ⟨rfl, ⟨_, _, (hP4.out.1.mono (by omega)).drew⟩, hb6.drew⟩
  by_cases k5 : k = 5
  · subst k5
    cases F
    · have hpf : p.f = true := by have := hF.out; simpa using this
      have hz := hq'.out
      have hz2 : prStep W b r ⟨5, t, db, dn, de⟩ wide ⟨p, b :: r, pr, em⟩ = ⟨p, b :: r, pr, em⟩ := by unfold prStep; simp [hpf]
      rw [hz2] at hz; subst hz
      clear hq' hz2
      go_wp2_with fail
      first | go_end0 | refine bodyPost_ret (results_none rfl _ _ _) rfl ?_
      exact ⟨rfl, ⟨_, _, h3.out.mono (by omega)⟩, hq3.out⟩
    · have hpf : p.f = false := by have := hF.out; simpa using this
      cases pr
      · have hz := hq'.out
        have hz2 : prStep W b r ⟨5, t, db, dn, de⟩ wide ⟨p, b :: r, false, em⟩ = ⟨p, b :: r, false, em⟩ := by unfold prStep; simp []
        rw [hz2] at hz; subst hz
        clear hq' hz2
        go_wp2_with fail
        first | go_end0 | refine bodyPost_ret (results_none rfl _ _ _) rfl ?_
        exact ⟨rfl, ⟨_, _, h3.out.mono (by omega)⟩, hq3.out⟩
      · cases em
        · have hz := hq'.out
          have hz2 : prStep W b r ⟨5, t, db, dn, de⟩ wide ⟨p, b :: r, true, false⟩ = ⟨dPn ⟨4, false, ⟨#[]⟩, 0⟩ p, b :: r, true, true⟩ := by unfold prStep; simp [hpf]
          rw [hz2] at hz; subst hz
          clear hq' hz2
          replace hpf := Lib.hid hpf
          go_wp2_with fail
          refine (pen_Empty s vs p U w3 h3.out.pen (by omega)).mono ?_
          rintro e w4 ⟨rfl, vs4, P4, n4, k4⟩
          have hS4 := h3.out.sink k4 n4 P4
          have hS5 := hS4.1.put4 true
          have y4 := hS4.1.blk.cell 4; have z4 := hS4.1.blk.frozen 4
          simp at y4
          have hfin := (hq3.out.trans hS4.2).trans hS5.2
          have hS7 := hS5.1
          replace hS4 := Lib.hid hS4; replace hS5 := Lib.hid hS5; replace hS7 := Lib.hid hS7; replace hfin := Lib.hid hfin
          go_wp2_with fail
          first | go_end0 | refine bodyPost_ret (results_none rfl _ _ _) rfl ?_
          exact ⟨rfl, ⟨_, _, hS7.out.mono (by omega)⟩, hfin.out⟩
        · have hz := hq'.out
          have hz2 : prStep W b r ⟨5, t, db, dn, de⟩ wide ⟨p, b :: r, true, true⟩ = ⟨p, b :: r, true, true⟩ := by unfold prStep; simp []
          rw [hz2] at hz; subst hz
          clear hq' hz2
          go_wp2_with fail
          first | go_end0 | refine bodyPost_ret (results_none rfl _ _ _) rfl ?_
          exact ⟨rfl, ⟨_, _, h3.out.mono (by omega)⟩, hq3.out⟩
  have k6 := h6
  have hk1 : ((k : Int) == 1) = false := by simp; omega
  have hk5 : ((k : Int) == 5) = false := by simp; omega
  have hk6 : ((k : Int) == 6) = false := by simp; omega
  have hk7 : ((k : Int) == 7) = false := by simp; omega
  cases F
  · have hpf : p.f = true := by have := hF.out; simpa using this
    have hP4 := h3.out.put4 false
    obtain ⟨W4, hW4⟩ : ∃ W4, w3.setCell ⟨pb, 4, none⟩ (.bool false) = W4 := ⟨_, rfl⟩
    have hk34 : Kept (fun i => i = pb) w3 W4 := by rw [← hW4]; exact (Kept.refl (fun i => i = pb) w3).setCell ⟨pb, 4, none⟩ _ rfl
    rw [hW4] at hP4
    have hnpb : ∀ i, w.heap.size ≤ i → ¬ i = pb := fun i hi e => by have := h.out.blk.lt; omega
    have hW1z := hz1.out
    have l0 := cell_kept l0 hk34 (hnpb _ (by omega)); have l1 := cell_kept l1 hk34 (hnpb _ (by omega)); have l2 := cell_kept l2 hk34 (hnpb _ (by omega))
    have m0 := cell_kept m0 hk34 (hnpb _ (Nat.le_refl _)); have m2 := cell_kept m2 hk34 (hnpb _ (Nat.le_refl _))
    have y1' := hP4.1.blk.cell 1
    simp at y1'
    have hq4 := hq3.out.trans hP4.2
    have hlow : ∀ w5 vs5, Kept (Own s vs) W4 w5 → Next W4 vs vs5 → True := fun _ _ _ _ => trivial
    clear hlow
    have hcb : 0 ≤ p.col ∧ p.col ≤ 68719476736 := by have := h.out.pen.room; have := h.out.pen.col; have := h.out.pen.ind; unfold Pn.col; split <;> omega
    replace hP4 := Lib.hid hP4; replace hq4 := Lib.hid hq4; replace hpf := Lib.hid hpf; replace hk34 := Lib.hid hk34; replace hW1z := Lib.hid hW1z
    obtain ⟨bi, hbi'⟩ : ∃ n : Nat, b.i = n := ⟨b.i.toNat, by omega⟩
    rw [hbi'] at l0
    by_cases k4 : k = 4
    · subst k4
      have hz := hq'.out
      have hz2 : prStep W b r ⟨4, t, db, dn, de⟩ wide ⟨p, b :: r, pr, em⟩ = ⟨dPn ⟨3, false, ⟨#[]⟩, b.i⟩ p, b :: r, pr, false⟩ := by unfold prStep endsB; simp [hpf.out]
      rw [hz2, hbi'] at hz; subst hz
      clear hq' hz2
      have c6 := pen_Feed s vs p U bi W4.drew ⟨hP4.out.1.pen.sk.drew, hP4.out.1.pen.room, hP4.out.1.pen.col, hP4.out.1.pen.ind⟩ (by omega) (by omega)
      replace c6 := Lib.hid c6; replace hbi' := Lib.hid hbi'
      go_wp2_with fail
      go_region_held3 (fun w' => w'.cell? ⟨pb, 1, none⟩ = some (.pointer (some ⟨s, 0, none⟩)) ∧ w'.cell? ⟨W1.heap.size, 0, none⟩ = some (.int .i64 bi)) (first | exact ⟨r0, r1⟩ | go_keep) ((go_at_call 14; refine c6.out.mono ?_; rintro e w5 ⟨rfl, vs5, P5, n5, k5⟩; have k5' : Kept (Own s vs) W4 w5 := ⟨k5.os, k5.tape, k5.output, k5.size, k5.block⟩; have r0 := cell_kept y1' k5' hP4.out.1.d1; have r1 := cell_kept l0 k5' hno2; have hS5 := hP4.out.1.sink k5' n5 P5))
      have hfin := hq4.out.trans hS5.2
      have hS7 := hS5.1
      replace hS5 := Lib.hid hS5; replace hS7 := Lib.hid hS7; replace hfin := Lib.hid hfin
      go_wp2_with fail
      first | go_end0 | refine bodyPost_ret (results_none rfl _ _ _) rfl ?_
      have hbi2 : bi ≤ 1000 := by have := hbi'.out; omega
      exact ⟨rfl, ⟨_, _, hS7.out.mono (by omega)⟩, hfin.out⟩
    by_cases k2 : k = 2
    · subst k2
      have hz := hq'.out
      have hz2 : prStep W b r ⟨2, t, db, dn, de⟩ wide ⟨p, b :: r, pr, em⟩ = ⟨dPn ⟨2, false, ⟨#[]⟩, 1⟩ p, b :: r, pr, false⟩ := by unfold prStep endsB; simp [hpf.out]
      rw [hz2] at hz; subst hz
      clear hq' hz2
      have c6 := pen_Blanks s vs p U 1 W4 hP4.out.1.pen (by omega) (by omega)
      replace c6 := Lib.hid c6; replace hbi' := Lib.hid hbi'
      go_wp2_with fail
      refine c6.out.mono ?_
      rintro e w6 ⟨rfl, P6, k6'⟩
      have hS6 := hP4.out.1.sink k6' (Next.refl _ _) P6
      have hfin := hq4.out.trans hS6.2
      have hS7 := hS6.1
      replace hS6 := Lib.hid hS6; replace hS7 := Lib.hid hS7; replace hfin := Lib.hid hfin
      go_wp2_with fail
      first | go_end0 | refine bodyPost_ret (results_none rfl _ _ _) rfl ?_
      exact ⟨rfl, ⟨_, _, hS7.out.mono (by omega)⟩, hfin.out⟩
    by_cases k3 : k = 3
    · subst k3
      obtain ⟨bf, hbf⟩ : ∃ x, b.f = x := ⟨_, rfl⟩
      obtain ⟨be, hbe⟩ : ∃ x, b.e = x := ⟨_, rfl⟩
      rw [hbf] at l2; rw [hbe] at l1
      cases bf
      · cases be
        · by_cases hwr : W - p.col < wide
          · have c5 := press_Room base pb s vs _ p U W (b :: r) pr false W4 hP4.out.1 (by omega) hW
            replace c5 := Lib.hid c5
            have hz := hq'.out
            have hz2 : prStep W b r ⟨3, t, db, dn, de⟩ wide ⟨p, b :: r, pr, em⟩ = ⟨dPn ⟨3, false, ⟨#[]⟩, b.i⟩ p, b :: r, pr, false⟩ := by unfold prStep endsB; simp [hpf.out, hbf, hbe, hwr]
            rw [hz2, hbi'] at hz; subst hz
            clear hq' hz2
            replace hbf := Lib.hid hbf; replace hbe := Lib.hid hbe
            go_wp2_with fail
            refine c5.out.mono ?_
            rintro e w5 ⟨rfl, hP5, kr⟩
            have hq5 := hq4.out.trans (hP4.out.1.sink kr (Next.refl _ _) ⟨hP5.pen.sk, hP5.pen.room, hP5.pen.col, hP5.pen.ind⟩).2
            have x1 := hP5.blk.cell 1
            simp at x1
            have l0' := cell_kept l0 kr hno2
            have m0' := cell_kept m0 kr hno1; have m2' := cell_kept m2 kr hno1
            replace hP5 := Lib.hid hP5; replace hq5 := Lib.hid hq5; replace kr := Lib.hid kr
            have c6 := pen_Feed s vs p U bi w5.drew ⟨hP5.out.pen.sk.drew, hP5.out.pen.room, hP5.out.pen.col, hP5.out.pen.ind⟩ (by omega) (by omega)
            replace c6 := Lib.hid c6; replace hbi' := Lib.hid hbi'
            go_wp2_with fail
            go_region_held3 (fun w' => w'.cell? ⟨pb, 1, none⟩ = some (.pointer (some ⟨s, 0, none⟩)) ∧ w'.cell? ⟨W1.heap.size, 0, none⟩ = some (.int .i64 bi)) (first | exact ⟨r0, r1⟩ | go_keep) ((go_at_call 14; refine c6.out.mono ?_; rintro e w6 ⟨rfl, vs6, P6, n6, k6'⟩; have k6'' : Kept (Own s vs) w5 w6 := ⟨k6'.os, k6'.tape, k6'.output, k6'.size, k6'.block⟩; have r0 := cell_kept x1 k6'' hP5.out.d1; have r1 := cell_kept l0' k6'' hno2; have hS6 := hP5.out.sink k6'' n6 P6))
            have hfin := hq5.out.trans hS6.2
            have hS7 := hS6.1
            replace hS6 := Lib.hid hS6; replace hS7 := Lib.hid hS7; replace hfin := Lib.hid hfin
            go_wp2_with fail
            first | go_end0 | refine bodyPost_ret (results_none rfl _ _ _) rfl ?_
            have hbi2 : bi ≤ 1000 := by have := hbi'.out; omega
            exact ⟨rfl, ⟨_, _, hS7.out.mono (by omega)⟩, hfin.out⟩
          · have c5 := press_Room base pb s vs _ p U W (b :: r) pr false W4 hP4.out.1 (by omega) hW
            replace c5 := Lib.hid c5
            have hz := hq'.out
            have hz2 : prStep W b r ⟨3, t, db, dn, de⟩ wide ⟨p, b :: r, pr, em⟩ = ⟨dPn ⟨2, false, ⟨#[]⟩, db⟩ p, b :: r, pr, false⟩ := by unfold prStep endsB; simp [hpf.out, hbf, hbe, hwr]
            rw [hz2] at hz; subst hz
            clear hq' hz2
            replace hbf := Lib.hid hbf; replace hbe := Lib.hid hbe; replace hbi' := Lib.hid hbi'
            go_wp2_with fail
            refine c5.out.mono ?_
            rintro e w5 ⟨rfl, hP5, kr⟩
            have hq5 := hq4.out.trans (hP4.out.1.sink kr (Next.refl _ _) ⟨hP5.pen.sk, hP5.pen.room, hP5.pen.col, hP5.pen.ind⟩).2
            have x1 := hP5.blk.cell 1
            simp at x1
            have l0' := cell_kept l0 kr hno2
            have m0' := cell_kept m0 kr hno1; have m2' := cell_kept m2 kr hno1
            replace hP5 := Lib.hid hP5; replace hq5 := Lib.hid hq5; replace kr := Lib.hid kr
            have c6 := pen_Blanks s vs p U db w5.drew ⟨hP5.out.pen.sk.drew, hP5.out.pen.room, hP5.out.pen.col, hP5.out.pen.ind⟩ (by omega) (by omega)
            replace c6 := Lib.hid c6
            go_wp2_with fail
            go_region_held3 (fun w' => w'.cell? ⟨pb, 1, none⟩ = some (.pointer (some ⟨s, 0, none⟩)) ∧ w'.cell? ⟨w.heap.size, 2, none⟩ = some (.int .i64 db)) (first | exact ⟨r0, r1⟩ | go_keep) ((go_at_call 13; refine c6.out.mono ?_; rintro e w6 ⟨rfl, P6, k6'⟩; have k6'' : Kept (Own s vs) w5 w6 := ⟨k6'.os, k6'.tape, k6'.output, k6'.size, k6'.block⟩; have r0 := cell_kept x1 k6'' hP5.out.d1; have r1 := cell_kept m2' k6'' hno1; have hS6 := hP5.out.sink k6'' (Next.refl _ _) P6))
            have hfin := hq5.out.trans hS6.2
            have hS7 := hS6.1
            replace hS6 := Lib.hid hS6; replace hS7 := Lib.hid hS7; replace hfin := Lib.hid hfin
            go_wp2_with fail
            first | go_end0 | refine bodyPost_ret (results_none rfl _ _ _) rfl ?_
            exact ⟨rfl, ⟨_, _, hS7.out.mono (by omega)⟩, hfin.out⟩
        · have hz := hq'.out
          have hz2 : prStep W b r ⟨3, t, db, dn, de⟩ wide ⟨p, b :: r, pr, em⟩ = ⟨dPn ⟨3, false, ⟨#[]⟩, b.i⟩ p, b :: r, pr, false⟩ := by unfold prStep endsB; simp [hpf.out, hbf, hbe]
          rw [hz2, hbi'] at hz; subst hz
          clear hq' hz2
          replace hbf := Lib.hid hbf; replace hbe := Lib.hid hbe
          have c6 := pen_Feed s vs p U bi W4.drew ⟨hP4.out.1.pen.sk.drew, hP4.out.1.pen.room, hP4.out.1.pen.col, hP4.out.1.pen.ind⟩ (by omega) (by omega)
          replace c6 := Lib.hid c6; replace hbi' := Lib.hid hbi'
          go_wp2_with fail
          go_region_held3 (fun w' => w'.cell? ⟨pb, 1, none⟩ = some (.pointer (some ⟨s, 0, none⟩)) ∧ w'.cell? ⟨W1.heap.size, 0, none⟩ = some (.int .i64 bi)) (first | exact ⟨r0, r1⟩ | go_keep) ((go_at_call 14; refine c6.out.mono ?_; rintro e w6 ⟨rfl, vs6, P6, n6, k6'⟩; have k6'' : Kept (Own s vs) W4 w6 := ⟨k6'.os, k6'.tape, k6'.output, k6'.size, k6'.block⟩; have r0 := cell_kept y1' k6'' hP4.out.1.d1; have r1 := cell_kept l0 k6'' hno2; have hS6 := hP4.out.1.sink k6'' n6 P6))
          have hfin := hq4.out.trans hS6.2
          have hS7 := hS6.1
          replace hS6 := Lib.hid hS6; replace hS7 := Lib.hid hS7; replace hfin := Lib.hid hfin
          go_wp2_with fail
          first | go_end0 | refine bodyPost_ret (results_none rfl _ _ _) rfl ?_
          have hbi2 : bi ≤ 1000 := by have := hbi'.out; omega
          exact ⟨rfl, ⟨_, _, hS7.out.mono (by omega)⟩, hfin.out⟩
      · have hz := hq'.out
        have hz2 : prStep W b r ⟨3, t, db, dn, de⟩ wide ⟨p, b :: r, pr, em⟩ = ⟨dPn ⟨2, false, ⟨#[]⟩, db⟩ p, b :: r, pr, false⟩ := by unfold prStep endsB; simp [hpf.out, hbf]
        rw [hz2] at hz; subst hz
        clear hq' hz2
        replace hbf := Lib.hid hbf; replace hbe := Lib.hid hbe; replace hbi' := Lib.hid hbi'
        have c6 := pen_Blanks s vs p U db W4.drew ⟨hP4.out.1.pen.sk.drew, hP4.out.1.pen.room, hP4.out.1.pen.col, hP4.out.1.pen.ind⟩ (by omega) (by omega)
        replace c6 := Lib.hid c6
        go_wp2_with fail
        go_region_held3 (fun w' => w'.cell? ⟨pb, 1, none⟩ = some (.pointer (some ⟨s, 0, none⟩)) ∧ w'.cell? ⟨w.heap.size, 2, none⟩ = some (.int .i64 db)) (first | exact ⟨r0, r1⟩ | go_keep) ((go_at_call 13; refine c6.out.mono ?_; rintro e w6 ⟨rfl, P6, k6'⟩; have k6'' : Kept (Own s vs) W4 w6 := ⟨k6'.os, k6'.tape, k6'.output, k6'.size, k6'.block⟩; have r0 := cell_kept y1' k6'' hP4.out.1.d1; have r1 := cell_kept m2 k6'' hno1; have hS6 := hP4.out.1.sink k6'' (Next.refl _ _) P6))
        have hfin := hq4.out.trans hS6.2
        have hS7 := hS6.1
        replace hS6 := Lib.hid hS6; replace hS7 := Lib.hid hS7; replace hfin := Lib.hid hfin
        go_wp2_with fail
        first | go_end0 | refine bodyPost_ret (results_none rfl _ _ _) rfl ?_
        exact ⟨rfl, ⟨_, _, hS7.out.mono (by omega)⟩, hfin.out⟩
    have hk2 : ((k : Int) == 2) = false := by simp; omega
    have hk3 : ((k : Int) == 3) = false := by simp; omega
    have hk4 : ((k : Int) == 4) = false := by simp; omega
    have hz := hq'.out
    have hz2 : prStep W b r ⟨k, t, db, dn, de⟩ wide ⟨p, b :: r, pr, em⟩ = ⟨dPn ⟨2, false, ⟨#[]⟩, db⟩ p, b :: r, pr, false⟩ := by unfold prStep endsB; simp [hpf.out, k1, k2, k3, k4, k5, k6, k7]
    rw [hz2] at hz; subst hz
    clear hq' hz2
    replace hbi' := Lib.hid hbi'
    have c6 := pen_Blanks s vs p U db W4.drew ⟨hP4.out.1.pen.sk.drew, hP4.out.1.pen.room, hP4.out.1.pen.col, hP4.out.1.pen.ind⟩ (by omega) (by omega)
    replace c6 := Lib.hid c6
    go_wp2_with fail
    go_region_held3 (fun w' => w'.cell? ⟨pb, 1, none⟩ = some (.pointer (some ⟨s, 0, none⟩)) ∧ w'.cell? ⟨w.heap.size, 2, none⟩ = some (.int .i64 db)) (first | exact ⟨r0, r1⟩ | go_keep) ((go_at_call 13; refine c6.out.mono ?_; rintro e w6 ⟨rfl, P6, k6'⟩; have k6'' : Kept (Own s vs) W4 w6 := ⟨k6'.os, k6'.tape, k6'.output, k6'.size, k6'.block⟩; have r0 := cell_kept y1' k6'' hP4.out.1.d1; have r1 := cell_kept m2 k6'' hno1; have hS6 := hP4.out.1.sink k6'' (Next.refl _ _) P6))
    have hfin := hq4.out.trans hS6.2
    have hS7 := hS6.1
    replace hS6 := Lib.hid hS6; replace hS7 := Lib.hid hS7; replace hfin := Lib.hid hfin
    go_wp2_with fail
    first | go_end0 | refine bodyPost_ret (results_none rfl _ _ _) rfl ?_
    exact ⟨rfl, ⟨_, _, hS7.out.mono (by omega)⟩, hfin.out⟩
  · have hpf : p.f = false := by have := hF.out; simpa using this
    have hz := hq'.out
    have hz2 : prStep W b r ⟨k, t, db, dn, de⟩ wide ⟨p, b :: r, pr, em⟩ = ⟨p, b :: r, pr, em⟩ := by unfold prStep; simp [k1, k5, k6, k7, hpf]
    rw [hz2] at hz; subst hz
    clear hq' hz2
    go_wp2_with fail
    first | go_end0 | refine bodyPost_ret (results_none rfl _ _ _) rfl ?_
    exact ⟨rfl, ⟨_, _, h3.out.mono (by omega)⟩, hq3.out⟩
end Go.Proofs.YtphcmbdmkhmfbaaDoor
