/- How wide a piece is: press.Of and the reference's Wide. Condition: a text has at most 2^40 bytes. A press in memory (package press): New, Room, Take. The calls on the program's sink, each told by what the sink holds (Pen, dPn). -/
import Derived.Test.YtphcmbdmkhmfbaaDoorDoc
import Derived.Test.YtphcmbdmkhmfbaaDoorRef02
import Derived.Lib.IndexAny
import Derived.Test.YtphcmbdmkhmfbaaDoorDoes
import Derived.WalkSmall
import Derived.Test.YtphcmbdmkhmfbaaDoorPlays
import Derived.Test.YtphcmbdmkhmfbaaDoorOne
namespace Go.Proofs.YtphcmbdmkhmfbaaDoor
open Go.RowKit Go.Lib
/-- How wide a piece is, where 'far' is wider than any room. -/
def wideAs (far : Int) (d : DocV) : Int :=
  if d.k = 1 then (if nlAt d.t d.t.size = 0 then wid d.t.data.toList else far)
  else if d.k = 2 then 1
  else if d.k = 3 then d.b
  else if d.k = 4 ∨ d.k = 5 then far
  else 0
theorem has_lf (t : ByteArray) : decide (0 ≤ Lib.indexByte t.data.toList 10) = !decide (nlAt t t.size = 0) := by
  rw [← Lib.contains_iff_indexByte, ← countByte_nl]
  unfold Lib.countByte
  obtain ⟨l, hl⟩ : ∃ l, t.data.toList = l := ⟨_, rfl⟩
  rw [hl, List.contains_eq_mem]
  by_cases h : (10 : UInt8) ∈ l
  · have := List.count_pos_iff.2 h
    simp [h]; omega
  · simp [h, List.count_eq_zero]
set_option maxHeartbeats 1000000 in
set_option maxRecDepth 100000 in
theorem press_Of (d : DocV) (w : World) (hT : Tabs w) (ht : d.t.size ≤ 1099511627776) : Calls Tryd.prog 74 #[d.agg] w fun e w' => e = .returned (.int .i64 (wideAs 1048576 d)) ∧ Below w.heap.size w w' := by
  obtain ⟨k, t, b, n, e⟩ := d
  unfold DocV.agg
  simp only at ht ⊢
  have hc := fun W => Tryd.strings_Contains_one t 10 W
  have hb1 : Below w.heap.size w (w.alloc (.cells #[.int .u8 k, .string t, .int .i64 b, .int .i64 n, .bool e] 47)) := (Below.refl _ _).alloc (Nat.le_refl _) _
  have hT1 := hT.below hb1
  have hwT := fun W (h : Tabs W) => width_Text t W ht h
  rw [has_lf] at hc
  replace hT1 := Lib.hid hT1; replace hb1 := Lib.hid hb1; replace hwT := Lib.hid hwT; replace hT := Lib.hid hT
  by_cases k1 : k = 1
  · subst k1
    by_cases hn : nlAt t t.size = 0
    · have hr : wideAs 1048576 ⟨1, t, b, n, e⟩ = wid t.data.toList := by simp [wideAs, hn]
      rw [hr]; clear hr
      rw [hn] at hc
      replace hc := Lib.hid hc; replace hn := Lib.hid hn
      go_enter Tryd.func74, Tryd.ntmps74
      go_wp2_with fail
      refine (hc.out _).mono ?_
      rintro e w1 ⟨rfl, rfl⟩
      go_wp2_with fail
      refine (hwT.out _ hT1.out).mono ?_
      rintro e w2 ⟨rfl, b2⟩
      go_wp2_with fail
      go_ret
      exact ⟨rfl, hb1.out.trans (b2.mono hb1.out.size)⟩
    · have hr : wideAs 1048576 ⟨1, t, b, n, e⟩ = 1048576 := by simp [wideAs, hn]
      rw [hr]; clear hr
      rw [decide_eq_false hn] at hc
      replace hc := Lib.hid hc; replace hn := Lib.hid hn
      go_enter Tryd.func74, Tryd.ntmps74
      go_wp2_with fail
      refine (hc.out _).mono ?_
      rintro e w1 ⟨rfl, rfl⟩
      go_wp2_with fail
      go_ret
      exact ⟨rfl, hb1.out⟩
  obtain ⟨R, hR⟩ : ∃ R, wideAs 1048576 ⟨k, t, b, n, e⟩ = R := ⟨_, rfl⟩
  by_cases k2 : k = 2
  · subst k2
    go_enter Tryd.func74, Tryd.ntmps74
    go_wp2_with fail
    go_ret
    exact ⟨rfl, hb1.out⟩
  by_cases k3 : k = 3
  · subst k3
    go_enter Tryd.func74, Tryd.ntmps74
    go_wp2_with fail
    go_ret
    exact ⟨rfl, hb1.out⟩
  by_cases k4 : k = 4
  · subst k4
    go_enter Tryd.func74, Tryd.ntmps74
    go_wp2_with fail
    go_ret
    exact ⟨rfl, hb1.out⟩
  by_cases k5 : k = 5
  · subst k5
    go_enter Tryd.func74, Tryd.ntmps74
    go_wp2_with fail
    go_ret
    exact ⟨rfl, hb1.out⟩
  have hr : wideAs 1048576 ⟨k, t, b, n, e⟩ = 0 := by simp [wideAs, k1, k2, k3, k4, k5]
  rw [hr]; clear hr hR
  go_enter Tryd.func74, Tryd.ntmps74
  go_wp2_with fail
  go_ret
  exact ⟨rfl, hb1.out⟩
theorem nl_first (t : ByteArray) : ∀ i, nlAt t i = 0 → byteAt t i ≠ 10 → nlAt t (i + 1) = 0 := fun i h h1 => by rw [nlAt, if_neg h1]; exact h
theorem nl_mono (t : ByteArray) : ∀ i j, i ≤ j → nlAt t i ≤ nlAt t j
  | i, 0, h => by have : i = 0 := by omega
                  subst this; exact Nat.le_refl _
  | i, j + 1, h => by
    by_cases e : i = j + 1
    · subst e; exact Nat.le_refl _
    · have := nl_mono t i j (by omega)
      rw [nlAt]; split <;> omega
set_option maxHeartbeats 1000000 in
set_option maxRecDepth 100000 in
theorem r8_Wide (d : DocV) (w : World) (ht : d.t.size ≤ 1099511627776) : Calls Tryd.prog 78 #[d.agg] w fun e w' => e = .returned (.int .i64 (wideAs 1099511627776 d)) ∧ Below w.heap.size w w' := by
  obtain ⟨k, t, b, n, e⟩ := d
  unfold DocV.agg
  simp only at ht ⊢
  have hb1 : Below w.heap.size w (w.alloc (.cells #[.int .u8 k, .string t, .int .i64 b, .int .i64 n, .bool e] 47)) := (Below.refl _ _).alloc (Nat.le_refl _) _
  have hwT := fun W => r2_Text t W ht
  have hB1 := Blk.new w #[.int .u8 k, .string t, .int .i64 b, .int .i64 n, .bool e] 47
  replace hb1 := Lib.hid hb1; replace hwT := Lib.hid hwT
  by_cases k1 : k = 1
  · subst k1
    obtain ⟨W1, hW1⟩ : ∃ W1, w.alloc (.cells #[.int .u8 ((1 : Nat) : Int), .string t, .int .i64 b, .int .i64 n, .bool e] 47) = W1 := ⟨_, rfl⟩
    rw [hW1] at hB1 hb1
    have p0 := hB1.cell 0; have p1 := hB1.cell 1
    simp at p0 p1 hW1
    obtain ⟨R, hR⟩ : ∃ R, wideAs 1099511627776 ⟨1, t, b, n, e⟩ = R := ⟨_, rfl⟩
    rw [hR]
    have hRe : R = if nlAt t t.size = 0 then wid t.data.toList else 1099511627776 := by rw [← hR]; simp [wideAs]
    clear hR
    replace hRe := Lib.hid hRe
    go_enter Tryd.func78, Tryd.ntmps78
    go_wp2_with fail
    go_loopw [3] (fun iv W => ∃ (i : Nat), iv = .int .i64 i ∧ i ≤ t.size ∧ nlAt t i = 0 ∧ W = W1) (fun iv _ => t.size - (RowKit.intOf iv).toNat)
    case atStart => exact ⟨0, rfl, by omega, rfl, rfl⟩
    case round =>
      obtain ⟨i, rfl, hi, hn, rfl⟩ := hrel
      by_cases hlt : i < t.size
      · have hi1 : (i : Int) < t.size := by omega
        have hi2 : (0 : Int) ≤ i := by omega
        have wi : IntKind.i64.wrap ((i : Int) + 1) = i + 1 := IntWalk.i64_in _ (by omega)
        have hmeas : t.size - (RowKit.intOf (.int .i64 ((i : Int) + 1))).toNat < t.size - (RowKit.intOf (.int .i64 (i : Int))).toNat := by simp [RowKit.intOf]; omega
        by_cases h10 : byteAt t i = 10
        · have hq : ((byteAt t i : Int) == 10) = true := by simp; omega
          have h1 : nlAt t (i + 1) ≠ 0 := by rw [nlAt, if_pos h10]; omega
          have h2 := nl_mono t (i + 1) t.size (by omega)
          have hR2 := hRe.out
          rw [if_neg (by omega)] at hR2
          subst hR2
          replace h10 := Lib.hid h10; replace hn := Lib.hid hn; replace h1 := Lib.hid h1
          go_wp2_with fail
          go_ret
          exact ⟨rfl, hb1.out⟩
        · have hq : ((byteAt t i : Int) == 10) = false := by simp; omega
          have h1 := nl_first t i hn h10
          replace h10 := Lib.hid h10; replace hn := Lib.hid hn; replace h1 := Lib.hid h1
          go_wp2_with fail
          exact ⟨⟨i + 1, by go_num, by omega, h1.out, trivial⟩, hmeas⟩
      · have hi1 : ¬ (i : Int) < t.size := by omega
        have he : i = t.size := by omega
        subst he
        have hR2 := hRe.out
        rw [if_pos hn] at hR2
        subst hR2
        replace hn := Lib.hid hn
        go_wp2_with fail
        refine (hwT.out _).mono ?_
        rintro e w2 ⟨rfl, b2⟩
        go_wp2_with fail
        go_ret
        exact ⟨rfl, hb1.out.trans (b2.mono hb1.out.size)⟩
  obtain ⟨R, hR⟩ : ∃ R, wideAs 1099511627776 ⟨k, t, b, n, e⟩ = R := ⟨_, rfl⟩
  by_cases k2 : k = 2
  · subst k2
    go_enter Tryd.func78, Tryd.ntmps78
    go_wp2_with fail
    go_ret
    exact ⟨rfl, hb1.out⟩
  by_cases k3 : k = 3
  · subst k3
    go_enter Tryd.func78, Tryd.ntmps78
    go_wp2_with fail
    go_ret
    exact ⟨rfl, hb1.out⟩
  by_cases k4 : k = 4
  · subst k4
    go_enter Tryd.func78, Tryd.ntmps78
    go_wp2_with fail
    go_ret
    exact ⟨rfl, hb1.out⟩
  by_cases k5 : k = 5
  · subst k5
    go_enter Tryd.func78, Tryd.ntmps78
    go_wp2_with fail
    go_ret
    exact ⟨rfl, hb1.out⟩
  have hr : wideAs 1099511627776 ⟨k, t, b, n, e⟩ = 0 := by simp [wideAs, k1, k2, k3, k4, k5]
  rw [hr]; clear hr hR
  go_enter Tryd.func78, Tryd.ntmps78
  go_wp2_with fail
  go_ret
  exact ⟨rfl, hb1.out⟩
end Go.Proofs.YtphcmbdmkhmfbaaDoor
namespace Go.Proofs.YtphcmbdmkhmfbaaDoor
open Go.RowKit Go.Lib
/-- A block of which the Begin was printed. -/
structure Bk where
  i : Int
  e : Bool
  f : Bool
def Bk.cells (b : Bk) : List Value := [.int .i64 b.i, .bool b.e, .bool b.f]
/-- The blocks in memory; the list has the innermost one first. -/
def rowOf : List Bk → List Value
  | [] => []
  | b :: r => rowOf r ++ b.cells
theorem rowOf_len : ∀ (st : List Bk), (rowOf st).length = st.length * 3
  | [] => rfl
  | b :: r => by have := rowOf_len r; simp [rowOf, Bk.cells, this]; omega
theorem rowOf_top (b : Bk) (r : List Bk) (j : Nat) (v : Value) (h : b.cells[j]? = some v) : (rowOf (b :: r))[r.length * 3 + j]? = some v := by
  rw [rowOf, List.getElem?_append_right (by rw [rowOf_len]; omega), rowOf_len, Nat.add_sub_cancel_left]; exact h
abbrev TP : TypeId := 115
abbrev TK : TypeId := 112
/-- A press at pb, with its sink at s; all that is its own lies from block 'base' on. -/
structure Prs (w : World) (base pb s : Nat) (vs vb : Value) (p : Pn) (U : Nat) (W : Int) (st : List Bk) (pr em : Bool) : Prop where
  blk : Blk w pb #[.int .i64 W, .pointer (some ⟨s, 0, none⟩), vb, .bool pr, .bool em] TP
  pen : Pen w s vs p U
  row : w.ownsRow base TK 3 vb st.length (rowOf st)
  d1 : ¬ Own s vs pb
  d2 : ∀ k, vb.ownBlock = some k → k ≠ pb ∧ ¬ Own s vs k
  lp : base ≤ pb
  ls : base ≤ s
theorem Prs.below {w w' : World} {base pb s : Nat} {vs vb : Value} {p : Pn} {U : Nat} {W : Int} {st : List Bk} {pr em : Bool} (h : Prs w base pb s vs vb p U W st pr em) (k : Below w.heap.size w w') : Prs w' base pb s vs vb p U W st pr em := by
  refine ⟨h.blk.below' k, h.pen.below k, ⟨h.row.1, ?_⟩, h.d1, h.d2, h.lp, h.ls⟩
  rcases h.row.2 with h2 | ⟨g, cap, cur, h1, h2, h3, h4⟩
  · exact .inl h2
  · exact .inr ⟨g, cap, cur, h1, h2, (k.block g (Array.getElem?_eq_some_iff.1 h3).1).trans h3, h4⟩
/-- A call on its sink. -/
theorem Prs.sink {w w' : World} {base pb s : Nat} {vs vb vs' : Value} {p p' : Pn} {U U' : Nat} {W : Int} {st : List Bk} {pr em : Bool} (h : Prs w base pb s vs vb p U W st pr em) (k : Kept (Own s vs) w w') (n : Next w vs vs') (hp : Pen w' s vs' p' U') : Prs w' base pb s vs' vb p' U' W st pr em ∧ Below base w w' := by
  have hlt : ∀ g, vb.ownBlock = some g → g < w.heap.size := fun g hg => by
    rcases h.row.2 with ⟨e, _⟩ | ⟨g', cap, cur, h1, h2, h3, h4⟩
    · rw [e] at hg; cases hg
    · rw [h1] at hg; cases hg; exact (Array.getElem?_eq_some_iff.1 h3).1
  have hno : ∀ i, i < w.heap.size → ¬ Own s vs i → ¬ Own s vs' i := fun i hi hn e => by
    rcases e with e | e
    · exact hn (.inl e)
    · rcases n i e with e | e
      · exact hn (.inr e)
      · omega
  refine ⟨⟨h.blk.kept k h.d1, hp, ⟨h.row.1, ?_⟩, hno _ h.blk.lt h.d1, fun g hg => ⟨(h.d2 g hg).1, hno _ (hlt g hg) (h.d2 g hg).2⟩, h.lp, h.ls⟩, k.below ?_ (fun i e => by have := h.pen.sk.ge i e; have := h.ls; omega)⟩
  · rcases h.row.2 with h2 | ⟨g, cap, cur, h1, h2, h3, h4⟩
    · exact .inl h2
    · exact .inr ⟨g, cap, cur, h1, h2, (k.block g (Array.getElem?_eq_some_iff.1 h3).1 (h.d2 g (by rw [h1]; rfl)).2).trans h3, h4⟩
  · have := h.ls; have := h.pen.sk.blk.lt; omega
set_option maxHeartbeats 1000000 in
theorem press_New (n : Int) (w : World) : Calls Tryd.prog 53 #[.int .i64 n] w fun e w' => ∃ pb s vb, e = .returned (.pointer (some ⟨pb, 0, none⟩)) ∧ Prs w' w.heap.size pb s (.slice none 0 0) vb ⟨[], false, 0, 0, 0⟩ 0 n [⟨0, false, false⟩] false false ∧ Below w.heap.size w w' := by
  go_enter Tryd.func53, Tryd.ntmps53
  go_wp2_with fail
  refine (sk_New w).mono ?_
  rintro e w1 ⟨rfl, s1, b1⟩
  go_wp2_with fail
  go_ret
  have hz := s1.blk.lt
  have hz1 := b1.size
  have hb2 : Below w.heap.size w (w1.alloc (.cells #[.int .i64 0, .bool false, .bool false] TK)) := b1.alloc hz1 _
  have hb3 : Below w.heap.size w ((w1.alloc (.cells #[.int .i64 0, .bool false, .bool false] TK)).alloc (.cells #[.int .i64 n, .pointer (some ⟨w.heap.size, 0, none⟩), .slice (some ⟨w1.heap.size, 0, none⟩) 1 1, .bool false, .bool false] TP)) := hb2.alloc (by simp; omega) _
  have hB1 := Blk.new w1 #[.int .i64 0, .bool false, .bool false] TK
  have hB2 := Blk.new (w1.alloc (.cells #[.int .i64 0, .bool false, .bool false] TK)) #[.int .i64 n, .pointer (some ⟨w.heap.size, 0, none⟩), .slice (some ⟨w1.heap.size, 0, none⟩) 1 1, .bool false, .bool false] TP
  have hsz : (w1.alloc (.cells #[.int .i64 0, .bool false, .bool false] TK)).heap.size = w1.heap.size + 1 := by simp
  rw [hsz] at hB2
  refine ⟨w1.heap.size + 1, w.heap.size, .slice (some ⟨w1.heap.size, 0, none⟩) 1 1, by first | rfl | simp, ?_, hb3⟩
  refine ⟨hB2, ⟨(s1.alloc _).alloc _, by simp, by simp, by simp⟩, ⟨rfl, .inr ⟨w1.heap.size, 1, #[.int .i64 0, .bool false, .bool false], rfl, hz1, hB1.alloc _, by simp, by decide, rfl, rfl⟩⟩, fun e => ?_, fun k hk => ?_, by (first | omega | (show _ ≤ w1.heap.size + 1; omega)), Nat.le_refl _⟩
  · rcases e with e | e
    · omega
    · cases e
  · have hk : w1.heap.size = k := by simpa [Value.ownBlock] using hk
    subst hk
    refine ⟨by omega, fun e => ?_⟩
    rcases e with e | e
    · omega
    · cases e
/-- Where the next text would stand. -/
def Pn.col (p : Pn) : Int := (if p.f then (p.y : Int) else p.x) + p.z
set_option maxHeartbeats 1000000 in
set_option maxRecDepth 100000 in
theorem press_Room (base pb s : Nat) (vs vb : Value) (p : Pn) (U : Nat) (W : Int) (st : List Bk) (pr em : Bool) (w : World) (h : Prs w base pb s vs vb p U W st pr em) (hU : U ≤ 17179869184) (hW : 0 ≤ W ∧ W ≤ 4096) :
    Calls Tryd.prog 75 #[.pointer (some ⟨pb, 0, none⟩)] w fun e w' => e = .returned (.int .i64 (W - p.col)) ∧ Prs w' base pb s vs vb p U W st pr em ∧ Kept (Own s vs) w w' := by
  have q0 := h.blk.cell 0; have q1 := h.blk.cell 1
  simp at q0 q1
  have hr := h.pen.room; have hc := h.pen.col; have hi := h.pen.ind
  have hcb : 0 ≤ p.col ∧ p.col ≤ 68719476736 := by unfold Pn.col; split <;> omega
  have c7 := sk_Column s vs p.l p.f p.x p.y p.z w.drew h.pen.sk.drew (by omega) (by omega) (by omega)
  have hce : (if p.f then (p.y : Int) else p.x) + p.z = p.col := rfl
  rw [hce] at c7
  have hw : IntKind.i64.wrap (W - p.col) = W - p.col := IntWalk.i64_in _ (by omega)
  replace h := Lib.hid h; replace c7 := Lib.hid c7; replace hce := Lib.hid hce
  go_enter Tryd.func75, Tryd.ntmps75
  go_wp2_with fail
  go_region_held3 (fun w' => w'.cell? ⟨pb, 0, none⟩ = some (.int .i64 W) ∧ w'.cell? ⟨pb, 1, none⟩ = some (.pointer (some ⟨s, 0, none⟩))) (first | exact ⟨r0, r1⟩ | go_keep) ((go_at_call 16; refine c7.out.mono ?_; rintro e w2 ⟨rfl, k2, s2⟩; have r0 := cell_kept (w := w) q0 ⟨k2.os, k2.tape, k2.output, k2.size, k2.block⟩ h.out.d1; have r1 := cell_kept (w := w) q1 ⟨k2.os, k2.tape, k2.output, k2.size, k2.block⟩ h.out.d1))
  go_wp2_with fail
  go_ret
  have k3 : Kept (Own s vs) w w2 := ⟨k2.os, k2.tape, k2.output, k2.size, k2.block⟩
  exact ⟨rfl, (h.out.sink k3 (Next.refl _ _) ⟨s2, h.out.pen.room, h.out.pen.col, h.out.pen.ind⟩).1, k3⟩
set_option maxHeartbeats 1000000 in
theorem press_Take (base pb s : Nat) (vs vb : Value) (p : Pn) (U : Nat) (W : Int) (st : List Bk) (pr em : Bool) (w : World) (h : Prs w base pb s vs vb p U W st pr em) (hb : base ≤ w.heap.size) :
    Calls Tryd.prog 55 #[.pointer (some ⟨pb, 0, none⟩)] w fun e w' => e = .returned (.string ⟨p.l.toArray⟩) ∧ Below base w w' := by
  have q1 := h.blk.cell 1
  simp at q1
  replace h := Lib.hid h
  go_enter Tryd.func55, Tryd.ntmps55
  go_wp2_with fail
  refine (sk_Take s vs p.l p.f p.x p.y p.z w h.out.pen.sk).mono ?_
  rintro e w2 ⟨rfl, k2, _⟩
  go_wp2_with fail
  go_ret
  exact ⟨rfl, k2.below hb (fun i e => by have := h.out.pen.sk.ge i e; have := h.out.ls; omega)⟩
end Go.Proofs.YtphcmbdmkhmfbaaDoor
namespace Go.Proofs.YtphcmbdmkhmfbaaDoor
open Go.RowKit Go.Lib
theorem pen_Text (s : Nat) (vs : Value) (p : Pn) (U : Nat) (t : ByteArray) (w : World) (D : Pen w s vs p U) (hU : U + t.size ≤ 17179869184) (hT : Tabs w) (hg1 : 0 < s) (hg2 : 1 < s) :
    Calls Tryd.prog 12 #[.pointer (some ⟨s, 0, none⟩), .string t] w fun e w' => e = .returned (.int .i64 0) ∧ ∃ vs', Pen w' s vs' (dPn ⟨1, false, t, 0⟩ p) (U + t.size) ∧ Next w vs vs' ∧ Kept (Own s vs) w w' := by
  have hroom := D.room; have hcol := D.col; have hind := D.ind
  by_cases ht : t.size = 0
  · have ht0 : t = ⟨#[]⟩ := by cases t with | mk d => simp [ByteArray.size] at ht; subst ht; rfl
    subst ht0
    refine (sk_Text0 s w).mono fun e w' ⟨h1, h2⟩ => ⟨h1, vs, ?_, Next.refl _ _, Kept.of_below h2⟩
    have e1 : dPn ⟨1, false, ⟨#[]⟩, 0⟩ p = p := by unfold dPn dStep; simp [ByteArray.size]
    rw [e1]
    exact (D.below h2).mono (by omega)
  · have hfx : (if p.f then 0 else p.x) ≤ p.x := by split <;> omega
    have hy0 : (0 : Int) ≤ (if p.f then (p.y : Int) else p.x) + p.z := by split <;> omega
    obtain ⟨Y, hY⟩ : ∃ Y : Nat, colAfter t ((if p.f then (p.y : Int) else p.x) + p.z) = Y := ⟨(colAfter t ((if p.f then (p.y : Int) else p.x) + p.z)).toNat, by have := (colAfter_le t _ hy0).1; omega⟩
    have hYb : (Y : Int) ≤ (if p.f then (p.y : Int) else p.x) + p.z + 2 * t.size := by rw [← hY]; exact (colAfter_le t _ hy0).2
    have hYc : Y ≤ 2 * (U + t.size) + 1048576 := by
      cases hf : p.f <;> simp [hf] at hroom hYb <;> omega
    have e1 : dPn ⟨1, false, t, 0⟩ p = ⟨p.l ++ (padOf (!p.f) p.x ++ List.replicate p.z 32 ++ t.data.toList), true, p.x, Y, 0⟩ := by unfold dPn dStep; simp [ht, hY]
    rw [e1]
    refine (sk_Text s vs p.l p.f p.x p.y p.z t w D.sk ht (by omega) (by omega) hT hg1 hg2).mono fun e w' ⟨h1, ⟨v', h2, h3⟩, h4⟩ => ⟨h1, v', ⟨?_, ?_, ?_, hind⟩, h3, h4⟩
    · rw [hY] at h2
      simpa [List.append_assoc] using h2
    · have h2 : t.data.toList.length = t.size := Array.length_toList
      simp only [List.length_append, List.length_replicate, h2, padOf]
      cases hf : p.f <;> simp [hf] at hroom ⊢ <;> omega
    · show Y + 0 ≤ _; omega
theorem pen_Blanks (s : Nat) (vs : Value) (p : Pn) (U : Nat) (n : Int) (w : World) (D : Pen w s vs p U) (hU : U ≤ 17179869184) (hn : 0 ≤ n ∧ n ≤ 1048576) :
    Calls Tryd.prog 13 #[.pointer (some ⟨s, 0, none⟩), .int .i64 n] w fun e w' => e = .returned (.int .i64 0) ∧ Pen w' s vs (dPn ⟨2, false, ⟨#[]⟩, n⟩ p) (U + n.toNat) ∧ Kept (Own s vs) w w' := by
  have hroom := D.room; have hcol := D.col; have hind := D.ind
  have e1 : dPn ⟨2, false, ⟨#[]⟩, n⟩ p = ⟨p.l, p.f, p.x, p.y, p.z + n.toNat⟩ := by unfold dPn dStep; simp [hn]
  rw [e1]
  refine (sk_Blanks s vs p.l p.f p.x p.y p.z n w D.sk (by omega)).mono fun e w' ⟨h1, _, h3⟩ => ⟨(h1 hn).1, ⟨?_, ?_, ?_, hind⟩, h3⟩
  · have := (h1 hn).2
    have hz : ((p.z + n.toNat : Nat) : Int) = p.z + n := by omega
    rw [hz]; exact this
  · simp only; omega
  · simp only; omega
theorem pen_Feed (s : Nat) (vs : Value) (p : Pn) (U : Nat) (n : Nat) (w : World) (D : Pen w s vs p U) (hU : U ≤ 17179869184) (hn : n ≤ 1048576) :
    Calls Tryd.prog 14 #[.pointer (some ⟨s, 0, none⟩), .int .i64 n] w fun e w' => e = .returned (.int .i64 0) ∧ ∃ vs', Pen w' s vs' (dPn ⟨3, false, ⟨#[]⟩, n⟩ p) (U + n + 1) ∧ Next w vs vs' ∧ Kept (Own s vs) w w' := by
  have hroom := D.room; have hcol := D.col; have hind := D.ind
  have hn' : 0 ≤ (n : Int) ∧ (n : Int) ≤ 1048576 := by omega
  have e1 : dPn ⟨3, false, ⟨#[]⟩, n⟩ p = ⟨p.l ++ [10], false, n, 0, 0⟩ := by unfold dPn dStep; simp [hn'.2]
  rw [e1]
  refine (sk_Feed s vs p.l p.f p.x p.y p.z n w D.sk (by omega)).mono fun e w' ⟨h1, _, h3⟩ => ?_
  obtain ⟨g1, v', g2, g3⟩ := h1 hn'
  exact ⟨g1, v', ⟨g2, by simp; omega, by simp, hn⟩, g3, h3⟩
theorem pen_Empty (s : Nat) (vs : Value) (p : Pn) (U : Nat) (w : World) (D : Pen w s vs p U) (hU : U ≤ 17179869184) :
    Calls Tryd.prog 15 #[.pointer (some ⟨s, 0, none⟩)] w fun e w' => e = .returned (.int .i64 0) ∧ ∃ vs', Pen w' s vs' (dPn ⟨4, false, ⟨#[]⟩, 0⟩ p) (U + 1) ∧ Next w vs vs' ∧ Kept (Own s vs) w w' := by
  have hroom := D.room; have hcol := D.col; have hind := D.ind
  refine (sk_Empty s vs p.l p.f p.x p.y p.z w D.sk (by omega) (by omega)).mono fun e w' ⟨h0, h1, h2, h3⟩ => ?_
  cases hf : p.f
  · obtain ⟨v', g2, g3⟩ := h1 hf
    have e1 : dPn ⟨4, false, ⟨#[]⟩, 0⟩ p = ⟨p.l ++ [10], false, p.x, 0, 0⟩ := by unfold dPn dStep; simp [hf]
    rw [e1]
    exact ⟨h0, v', ⟨g2, by simp [hf] at hroom ⊢; omega, by simp, hind⟩, g3, h3⟩
  · have e1 : dPn ⟨4, false, ⟨#[]⟩, 0⟩ p = p := by unfold dPn dStep; simp [hf]; rw [← hf]
    rw [e1]
    exact ⟨h0, vs, ⟨h2 hf, by omega, by omega, hind⟩, Next.refl _ _, h3⟩
end Go.Proofs.YtphcmbdmkhmfbaaDoor
