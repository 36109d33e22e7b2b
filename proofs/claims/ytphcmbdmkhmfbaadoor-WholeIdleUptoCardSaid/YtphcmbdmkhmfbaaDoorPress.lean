/- A press in memory (package press): New, Room, Take. -/
import Derived.Test.YtphcmbdmkhmfbaaDoorDoes
import Derived.Test.YtphcmbdmkhmfbaaDoorPiece
import Derived.WalkSmall
import Derived.Test.YtphcmbdmkhmfbaaDoorPlays
namespace Go.Proofs.YtphcmbdmkhmfbaaDoor
open Go.RowKit Go.Lib
/-- A block of which the Begin was printed. -/
structure Bk where
  i : Int
  e : Bool
  f : Bool
def Bk.cells (b : Bk) : List Value := [.int .i64 b.i, .bool b.e, .bool b.f]
/-- The blocks in memory; the list has the innermost one first. -/
def rowOf : List Bk → List Value
  | [] => []
  | b :: r => rowOf r ++ b.cells
theorem rowOf_len : ∀ (st : List Bk), (rowOf st).length = st.length * 3
  | [] => rfl
  | b :: r => by have := rowOf_len r; simp [rowOf, Bk.cells, this]; omega
theorem rowOf_top (b : Bk) (r : List Bk) (j : Nat) (v : Value) (h : b.cells[j]? = some v) : (rowOf (b :: r))[r.length * 3 + j]? = some v := by
  rw [rowOf, List.getElem?_append_right (by rw [rowOf_len]; omega), rowOf_len, Nat.add_sub_cancel_left]; exact h
abbrev TP : TypeId := 115
abbrev TK : TypeId := 112
/-- A press at pb, with its sink at s; all that is its own lies from block 'base' on. -/
structure Prs (w : World) (base pb s : Nat) (vs vb : Value) (p : Pn) (U : Nat) (W : Int) (st : List Bk) (pr em : Bool) : Prop where
  blk : Blk w pb #[.int .i64 W, .pointer (some ⟨s, 0, none⟩), vb, .bool pr, .bool em] TP
  pen : Pen w s vs p U
  row : w.ownsRow base TK 3 vb st.length (rowOf st)
  d1 : ¬ Own s vs pb
  d2 : ∀ k, vb.ownBlock = some k → k ≠ pb ∧ ¬ Own s vs k
  lp : base ≤ pb
  ls : base ≤ s
theorem Prs.below {w w' : World} {base pb s : Nat} {vs vb : Value} {p : Pn} {U : Nat} {W : Int} {st : List Bk} {pr em : Bool} (h : Prs w base pb s vs vb p U W st pr em) (k : Below w.heap.size w w') : Prs w' base pb s vs vb p U W st pr em := by
  refine ⟨h.blk.below' k, h.pen.below k, ⟨h.row.1, ?_⟩, h.d1, h.d2, h.lp, h.ls⟩
  rcases h.row.2 with h2 | ⟨g, cap, cur, h1, h2, h3, h4⟩
  · exact .inl h2
  · exact .inr ⟨g, cap, cur, h1, h2, (k.block g (Array.getElem?_eq_some_iff.1 h3).1).trans h3, h4⟩
/-- A call on its sink. -/
theorem Prs.sink {w w' : World} {base pb s : Nat} {vs vb vs' : Value} {p p' : Pn} {U U' : Nat} {W : Int} {st : List Bk} {pr em : Bool} (h : Prs w base pb s vs vb p U W st pr em) (k : Kept (Own s vs) w w') (n : Next w vs vs') (hp : Pen w' s vs' p' U') : Prs w' base pb s vs' vb p' U' W st pr em ∧ Below base w w' := by
  have hlt : ∀ g, vb.ownBlock = some g → g < w.heap.size := fun g hg => by
    rcases h.row.2 with ⟨e, _⟩ | ⟨g', cap, cur, h1, h2, h3, h4⟩
    · rw [e] at hg; cases hg
    · rw [h1] at hg; cases hg; exact (Array.getElem?_eq_some_iff.1 h3).1
  have hno : ∀ i, i < w.heap.size → ¬ Own s vs i → ¬ Own s vs' i := fun i hi hn e => by
    rcases e with e | e
    · exact hn (.inl e)
    · rcases n i e with e | e
      · exact hn (.inr e)
      · omega
  refine ⟨⟨h.blk.kept k h.d1, hp, ⟨h.row.1, ?_⟩, hno _ h.blk.lt h.d1, fun g hg => ⟨(h.d2 g hg).1, hno _ (hlt g hg) (h.d2 g hg).2⟩, h.lp, h.ls⟩, k.below ?_ (fun i e => by have := h.pen.sk.ge i e; have := h.ls; omega)⟩
  · rcases h.row.2 with h2 | ⟨g, cap, cur, h1, h2, h3, h4⟩
    · exact .inl h2
    · exact .inr ⟨g, cap, cur, h1, h2, (k.block g (Array.getElem?_eq_some_iff.1 h3).1 (h.d2 g (by rw [h1]; rfl)).2).trans h3, h4⟩
  · have := h.ls; have := h.pen.sk.blk.lt; omega
set_option maxHeartbeats 1000000 in
theorem press_New (n : Int) (w : World) : Calls Tryd.prog 53 #[.int .i64 n] w fun e w' => ∃ pb s vb, e = .returned (.pointer (some ⟨pb, 0, none⟩)) ∧ Prs w' w.heap.size pb s (.slice none 0 0) vb ⟨[], false, 0, 0, 0⟩ 0 n [⟨0, false, false⟩] false false ∧ Below w.heap.size w w' := by
  go_enter Tryd.func53, Tryd.ntmps53
  go_wp2_with fail
  refine (sk_New w).mono ?_
  rintro e w1 ⟨rfl, s1, b1⟩
  go_wp2_with fail
  go_ret
  have hz := s1.blk.lt
  have hz1 := b1.size
  have hb2 : Below w.heap.size w (w1.alloc (.cells #[.int .i64 0, .bool false, .bool false] TK)) := b1.alloc hz1 _
  have hb3 : Below w.heap.size w ((w1.alloc (.cells #[.int .i64 0, .bool false, .bool false] TK)).alloc (.cells #[.int .i64 n, .pointer (some ⟨w.heap.size, 0, none⟩), .slice (some ⟨w1.heap.size, 0, none⟩) 1 1, .bool false, .bool false] TP)) := hb2.alloc (by simp; omega) _
  have hB1 := Blk.new w1 #[.int .i64 0, .bool false, .bool false] TK
  have hB2 := Blk.new (w1.alloc (.cells #[.int .i64 0, .bool false, .bool false] TK)) #[.int .i64 n, .pointer (some ⟨w.heap.size, 0, none⟩), .slice (some ⟨w1.heap.size, 0, none⟩) 1 1, .bool false, .bool false] TP
  have hsz : (w1.alloc (.cells #[.int .i64 0, .bool false, .bool false] TK)).heap.size = w1.heap.size + 1 := by simp
  rw [hsz] at hB2
  refine ⟨w1.heap.size + 1, w.heap.size, .slice (some ⟨w1.heap.size, 0, none⟩) 1 1, by first | rfl | simp, ?_, hb3⟩
  refine ⟨hB2, ⟨(s1.alloc _).alloc _, by simp, by simp, by simp⟩, ⟨rfl, .inr ⟨w1.heap.size, 1, #[.int .i64 0, .bool false, .bool false], rfl, hz1, hB1.alloc _, by simp, by decide, rfl, rfl⟩⟩, fun e => ?_, fun k hk => ?_, by (first | omega | (show _ ≤ w1.heap.size + 1; omega)), Nat.le_refl _⟩
  · rcases e with e | e
    · omega
    · cases e
  · have hk : w1.heap.size = k := by simpa [Value.ownBlock] using hk
    subst hk
    refine ⟨by omega, fun e => ?_⟩
    rcases e with e | e
    · omega
    · cases e
/-- Where the next text would stand. -/
def Pn.col (p : Pn) : Int := (if p.f then (p.y : Int) else p.x) + p.z
set_option maxHeartbeats 1000000 in
set_option maxRecDepth 100000 in
theorem press_Room (base pb s : Nat) (vs vb : Value) (p : Pn) (U : Nat) (W : Int) (st : List Bk) (pr em : Bool) (w : World) (h : Prs w base pb s vs vb p U W st pr em) (hU : U ≤ 17179869184) (hW : 0 ≤ W ∧ W ≤ 4096) :
    Calls Tryd.prog 75 #[.pointer (some ⟨pb, 0, none⟩)] w fun e w' => e = .returned (.int .i64 (W - p.col)) ∧ Prs w' base pb s vs vb p U W st pr em ∧ Kept (Own s vs) w w' := by
  have q0 := h.blk.cell 0; have q1 := h.blk.cell 1
  simp at q0 q1
  have hr := h.pen.room; have hc := h.pen.col; have hi := h.pen.ind
  have hcb : 0 ≤ p.col ∧ p.col ≤ 68719476736 := by unfold Pn.col; split <;> omega
  have c7 := sk_Column s vs p.l p.f p.x p.y p.z w.drew h.pen.sk.drew (by omega) (by omega) (by omega)
  have hce : (if p.f then (p.y : Int) else p.x) + p.z = p.col := rfl
  rw [hce] at c7
  have hw : IntKind.i64.wrap (W - p.col) = W - p.col := IntWalk.i64_in _ (by omega)
  replace h := Lib.hid h; replace c7 := Lib.hid c7; replace hce := Lib.hid hce
  go_enter Tryd.func75, Tryd.ntmps75
  go_wp2_with fail
  go_region_held3 (fun w' => w'.cell? ⟨pb, 0, none⟩ = some (.int .i64 W) ∧ w'.cell? ⟨pb, 1, none⟩ = some (.pointer (some ⟨s, 0, none⟩))) (first | exact ⟨r0, r1⟩ | go_keep) ((go_at_call 16; refine c7.out.mono ?_; rintro e w2 ⟨rfl, k2, s2⟩; have r0 := cell_kept (w := w) q0 ⟨k2.os, k2.tape, k2.output, k2.size, k2.block⟩ h.out.d1; have r1 := cell_kept (w := w) q1 ⟨k2.os, k2.tape, k2.output, k2.size, k2.block⟩ h.out.d1))
  go_wp2_with fail
  go_ret
  have k3 : Kept (Own s vs) w w2 := ⟨k2.os, k2.tape, k2.output, k2.size, k2.block⟩
  exact ⟨rfl, (h.out.sink k3 (Next.refl _ _) ⟨s2, h.out.pen.room, h.out.pen.col, h.out.pen.ind⟩).1, k3⟩
set_option maxHeartbeats 1000000 in
theorem press_Take (base pb s : Nat) (vs vb : Value) (p : Pn) (U : Nat) (W : Int) (st : List Bk) (pr em : Bool) (w : World) (h : Prs w base pb s vs vb p U W st pr em) (hb : base ≤ w.heap.size) :
    Calls Tryd.prog 55 #[.pointer (some ⟨pb, 0, none⟩)] w fun e w' => e = .returned (.string ⟨p.l.toArray⟩) ∧ Below base w w' := by
  have q1 := h.blk.cell 1
  simp at q1
  replace h := Lib.hid h
  go_enter Tryd.func55, Tryd.ntmps55
  go_wp2_with fail
  refine (sk_Take s vs p.l p.f p.x p.y p.z w h.out.pen.sk).mono ?_
  rintro e w2 ⟨rfl, k2, _⟩
  go_wp2_with fail
  go_ret
  exact ⟨rfl, k2.below hb (fun i e => by have := h.out.pen.sk.ge i e; have := h.out.ls; omega)⟩
end Go.Proofs.YtphcmbdmkhmfbaaDoor
