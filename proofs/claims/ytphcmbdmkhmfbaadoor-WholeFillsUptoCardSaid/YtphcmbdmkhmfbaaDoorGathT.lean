/- Text$1, the closure that Text hands to gathers. -/
import Derived.Test.YtphcmbdmkhmfbaaDoorGath
import Derived.Test.YtphcmbdmkhmfbaaDoorRef06T
import Derived.Deep.RegionHeld3
namespace Go.Proofs.YtphcmbdmkhmfbaaDoor
open Go.RowKit Go.Lib
/-- The builder stands behind whatever leaves all blocks but s as they were. -/
theorem bld_kept {b : Nat} {bs : List Value} {w w' : World} {s : Nat} (h : Lib.IsBuilderF TB TU b b bs w) (k : Kept (fun i => i = s) w w') (hs : s < b) : Lib.IsBuilderF TB TU b b bs w' := by
  have hg : w.grownBy w' (some s) := ⟨k.os, k.tape, k.output, k.size, fun i hi hn => k.block i hi (fun e => hn (by rw [e]))⟩
  have go : ∀ p, Lib.BuilderAtF TB TU b b p bs w → Lib.BuilderAtF TB TU b b p bs w' := fun p h => by
    obtain ⟨h1, v, h2, h3, h4⟩ := h
    refine ⟨h1, v, (k.block b (Array.getElem?_eq_some_iff.1 h2).1 (by show ¬ b = s; omega)).trans h2, h3.kept hg ?_, h4⟩
    cases hv : v.ownBlock with
    | none => exact .inl rfl
    | some g => have := (h3.lt g hv).1; exact .inr (by simp; omega)
  exact h.imp (go _) (go _)
/-- What keeps all below bb keeps all but s and what stands from bb on. -/
theorem Kept.of_below' {s bb : Nat} {w w' : World} (h : Below bb w w') : Kept (fun k => k = s ∨ bb ≤ k) w w' := ⟨h.os, h.tape, h.output, h.size, fun k _ hn => h.block k (by simp at hn; omega)⟩
theorem bld_below {b : Nat} {bs : List Value} {w w' : World} (h : Lib.IsBuilderF TB TU b b bs w) (k : Below w.heap.size w w') (hb : 0 < b) : Lib.IsBuilderF TB TU b b bs w' := bld_kept h (s := 0) (Kept.of_below k) hb
set_option maxHeartbeats 4000000 in
set_option maxRecDepth 100000 in
theorem sk_text1 (s kb kt bb : Nat) (v : Value) (l : List UInt8) (f : Bool) (x y z : Nat) (t : ByteArray) (bs : List Value) (w : World) (hS : S7 w s v l f x y z) (hs : s < bb) (hkb : w.cell? ⟨kb, 0, none⟩ = some (.pointer (some ⟨s, 0, none⟩))) (hkb2 : kb < bb) (hkt : w.cell? ⟨kt, 0, none⟩ = some (.string t)) (hkt2 : kt < bb) (hn1 : kb ≠ s) (hn2 : kt ≠ s)
    (hB : Lib.IsBuilderF TB TU bb bb bs w) (hx : x ≤ 1099511627776) (hz : z ≤ 1099511627776) (hlen : bs.length + x + z + t.size ≤ 140737488355328) :
    Calls Tryd.prog 38 #[wr bb, .pointer (some ⟨kb, 0, none⟩), .pointer (some ⟨kt, 0, none⟩)] w fun e w' => e = .returned (.tuple #[]) ∧ Lib.IsBuilderF TB TU bb bb (bs ++ Lib.byteCells (padOf (!f) x ++ List.replicate z 32 ++ t.data.toList)) w' ∧ Kept (fun k => k = s ∨ bb ≤ k) w w' ∧ Blk w' s #[v, .bool true, .int .i64 x, .int .i64 (if f then (y : Int) else x), .int .i64 z] T7 := by
  have q0 := hS.blk.cell 0; have q1 := hS.blk.cell 1; have q2 := hS.blk.cell 2; have q3 := hS.blk.cell 3; have q4 := hS.blk.cell 4
  have f1 := hS.blk.frozen 1; have f3 := hS.blk.frozen 3
  simp at q0 q1 q2 q3 q4
  have hbl := (by rcases hB with h | h <;> exact Lib.BuilderAtF.lt h : bb < w.heap.size)
  have hS := Lib.hid hS; have hB := Lib.hid hB
  obtain ⟨R, hR⟩ : ∃ R, bs ++ Lib.byteCells (padOf (!f) x ++ List.replicate z 32 ++ t.data.toList) = R := ⟨_, rfl⟩
  obtain ⟨Y, hY⟩ : ∃ Y : Int, (if f then (y : Int) else x) = Y := ⟨_, rfl⟩
  rw [hR, hY]
  replace hR := Lib.hid hR; replace hY := Lib.hid hY
  unfold wr
  cases f
  · go_enter Tryd.func38, Tryd.ntmps38
    go_wp2_with fail
    have rlx : (repeatL [(32 : UInt8)] x).length = x := by rw [repeatL_length]; simp
    have rrx : Hid (repeatL [(32 : UInt8)] x = List.replicate x 32) := by show _ = _; have := repeatL_replicate 32 1 x; simpa using this
    refine (Tryd.strings_Repeat ⟨#[32]⟩ x _ (by omega) (by show 1 * x ≤ _; omega)).mono ?_
    rintro e w5 ⟨rfl, hq5⟩
    have hB5 := Lib.hid (bld_below hB.out hq5 (by omega))
    have hz5 := hq5.size
    go_wp2_with fail
    refine (sk_write bb bb bs ⟨(repeatL [32] x).toArray⟩ w5 hB5.out (by show _ + (repeatL [(32 : UInt8)] x).toArray.size ≤ _; rw [List.size_toArray, rlx]; omega) (by omega)).mono ?_
    rintro e w6 ⟨rfl, hB6, hb6, _⟩
    have h06 : Below bb w w6 := (hq5.mono (by omega)).trans hb6
    have hS6 : Blk w6 s #[v, .bool false, .int .i64 x, .int .i64 y, .int .i64 z] T7 := (h06.block s hs).trans hS.out.blk
    have kt6 : w6.cell? ⟨kt, 0, none⟩ = some (.string t) := (h06.cell (p := ⟨kt, 0, none⟩) hkt2).trans hkt
    have kb6 : w6.cell? ⟨kb, 0, none⟩ = some (.pointer (some ⟨s, 0, none⟩)) := (h06.cell (p := ⟨kb, 0, none⟩) hkb2).trans hkb
    replace hB6 := Lib.hid hB6
    replace q1 := hS6.cell 1; replace q2 := hS6.cell 2; replace q3 := hS6.cell 3; replace q4 := hS6.cell 4
    replace f1 := hS6.frozen 1; replace f3 := hS6.frozen 3
    simp at q1 q2 q3 q4
    clear hB5 hq5 hkt hkb q0
    go_wp2_with fail
    go_region_with (fail)
    all_goals
      have hS7 : Blk ((w6.setCell ⟨s, 3, none⟩ (.int .i64 x)).setCell ⟨s, 1, none⟩ (.bool true)).drew s #[v, .bool true, .int .i64 x, .int .i64 x, .int .i64 z] T7 := by
        have := ((hS6.set 3 (.int .i64 x)).set 1 (.bool true)).drew
        simpa using this
      have hk7 : Kept (fun i => i = s) w6 ((w6.setCell ⟨s, 3, none⟩ (.int .i64 x)).setCell ⟨s, 1, none⟩ (.bool true)).drew := (((Kept.refl (fun i => i = s) w6).setCell ⟨s, 3, none⟩ _ rfl).setCell ⟨s, 1, none⟩ _ rfl).drew
      have hz6 := h06.size
      obtain ⟨W7, hW7⟩ : ∃ W7, ((w6.setCell ⟨s, 3, none⟩ (.int .i64 (x : Int))).setCell ⟨s, 1, none⟩ (.bool true)).drew = W7 := ⟨_, rfl⟩
      rw [hW7] at hS7 hk7 ⊢
      clear hW7
      have hz7 := hk7.size
      have hB7 := Lib.hid (bld_kept (.inr hB6.out) hk7 (by omega))
      have kt7 : W7.cell? ⟨kt, 0, none⟩ = some (.string t) := by
        have := hk7.block kt (by omega) hn2
        rw [← kt6]; unfold World.cell?; simp only [this]
      have kb7 : W7.cell? ⟨kb, 0, none⟩ = some (.pointer (some ⟨s, 0, none⟩)) := by
        have := hk7.block kb (by omega) hn1
        rw [← kb6]; unfold World.cell?; simp only [this]
      replace q1 := hS7.cell 1; replace q2 := hS7.cell 2; replace q3 := hS7.cell 3; replace q4 := hS7.cell 4
      simp at q1 q2 q3 q4
      clear kt6 kb6 hB6 f1 f3
      go_wp2_with fail
      refine (Tryd.strings_Repeat ⟨#[32]⟩ z _ (by omega) (by show 1 * z ≤ _; omega)).mono ?_
      rintro e w1 ⟨rfl, hq1⟩
      have hB1 := Lib.hid (bld_below hB7.out hq1 (by omega))
      have hz1 := hq1.size
      have rl : (repeatL [(32 : UInt8)] z).length = z := by rw [repeatL_length]; simp
      go_wp2_with fail
      refine (sk_write bb bb _ ⟨(repeatL [32] z).toArray⟩ w1 hB1.out (by show _ + (repeatL [(32 : UInt8)] z).toArray.size ≤ _; rw [List.size_toArray, rl]; simp only [List.length_append, strCells, List.length_map, rlx]; omega) (by omega)).mono ?_
      rintro e w2 ⟨rfl, hB2, hb2, _⟩
      have kt2 : w2.cell? ⟨kt, 0, none⟩ = some (.string t) := (hb2.cell (p := ⟨kt, 0, none⟩) hkt2).trans ((hq1.cell (p := ⟨kt, 0, none⟩) (by show kt < _; omega)).trans kt7)
      replace hB2 := Lib.hid hB2
      go_wp2_with fail
      have rr : repeatL [(32 : UInt8)] z = List.replicate z 32 := by have := repeatL_replicate 32 1 z; simpa using this
      refine (sk_write bb bb _ t w2 (.inr hB2.out) (by simp only [List.length_append, strCells, List.length_map, rl, rlx]; omega) (by have := hb2.size; omega)).mono ?_
      rintro e w3 ⟨rfl, hB3, hb3, _⟩
      have hbb : Below bb W7 w3 := ((hq1.mono (by omega)).trans hb2).trans hb3
      replace hB3 := Lib.hid hB3
      go_wp2
      go_end0
      refine ⟨rfl, .inr ?_, (Kept.of_below' h06).trans (o2 := fun k => k = s ∨ bb ≤ k) ((hk7.mono (fun _ _ e => .inl e)).trans (Kept.of_below' hbb) (fun _ _ e => e)) (fun _ _ e => e), ?_⟩
      · have := hB3.out; rw [← hR.out]; simpa [padOf, strCells, byteCells, rr, rrx.out, List.map_append] using this
      · rw [← hY.out]; exact (hbb.block s hs).trans hS7
  · go_enter Tryd.func38, Tryd.ntmps38
    go_wp2_with fail
    refine (Tryd.strings_Repeat ⟨#[32]⟩ z _ (by omega) (by show 1 * z ≤ _; omega)).mono ?_
    rintro e w1 ⟨rfl, hq1⟩
    have hB1 := Lib.hid (bld_below hB.out hq1 (by omega))
    have hz1 := hq1.size
    have rl : (repeatL [(32 : UInt8)] z).length = z := by rw [repeatL_length]; simp
    go_wp2_with fail
    refine (sk_write bb bb bs ⟨(repeatL [32] z).toArray⟩ w1 hB1.out (by show _ + (repeatL [(32 : UInt8)] z).toArray.size ≤ _; rw [List.size_toArray, rl]; omega) (by omega)).mono ?_
    rintro e w2 ⟨rfl, hB2, hb2, _⟩
    have kt2 : w2.cell? ⟨kt, 0, none⟩ = some (.string t) := (hb2.cell (p := ⟨kt, 0, none⟩) hkt2).trans ((hq1.cell (p := ⟨kt, 0, none⟩) (by show kt < _; omega)).trans hkt)
    replace hB2 := Lib.hid hB2
    go_wp2_with fail
    have rr : repeatL [(32 : UInt8)] z = List.replicate z 32 := by have := repeatL_replicate 32 1 z; simpa using this
    refine (sk_write bb bb _ t w2 (.inr hB2.out) (by simp only [List.length_append, strCells, List.length_map, rl]; omega) (by have := hb2.size; omega)).mono ?_
    rintro e w3 ⟨rfl, hB3, hb3, _⟩
    have hbb : Below bb w w3 := ((hq1.mono (by omega)).trans hb2).trans hb3
    replace hB3 := Lib.hid hB3
    go_wp2
    go_end0
    refine ⟨rfl, .inr ?_, ⟨hbb.os, hbb.tape, hbb.output, hbb.size, fun k hk hn => hbb.block k (by simp at hn; omega)⟩, ?_⟩
    · have := hB3.out; rw [← hR.out]; simpa [padOf, strCells, byteCells, rr, List.map_append] using this
    · rw [← hY.out]; exact (hbb.block s hs).trans hS.out.blk
end Go.Proofs.YtphcmbdmkhmfbaaDoor
