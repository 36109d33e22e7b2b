/- gathers, called with Text$1 and with Feed$1. -/
import Derived.Test.YtphcmbdmkhmfbaaDoorGathP
import Derived.Defers
namespace Go.Proofs.YtphcmbdmkhmfbaaDoor
open Go.RowKit Go.Lib
/-- A new builder holds nothing. -/
theorem bld_new (w : World) : Lib.IsBuilderF TB TU w.heap.size w.heap.size [] (w.alloc (.cells #[.pointer none, .slice none 0 0] TB)) :=
  .of (.inl ⟨Nat.le_refl _, .slice none 0 0, by show (w.heap.push _)[w.heap.size]? = _; rw [Array.getElem?_push, if_pos rfl], World.ownsRow_nil _ _ _ _, by simp [Value.ownBlock]⟩)
theorem cell_lt {w : World} {b o : Nat} {v : Value} (h : w.cell? ⟨b, o, none⟩ = some v) : b < w.heap.size := by
  unfold World.cell? at h
  by_cases hb : b < w.heap.size
  · exact hb
  · simp [Array.getElem?_eq_none (Nat.le_of_not_lt hb)] at h
set_option maxHeartbeats 4000000 in
set_option maxRecDepth 100000 in
theorem sk_gathT (s kb0 kt0 : Nat) (v : Value) (l : List UInt8) (f : Bool) (x y z : Nat) (t : ByteArray) (w : World) (hS : S7 w s v l f x y z) (hkb : w.cell? ⟨kb0, 0, none⟩ = some (.pointer (some ⟨s, 0, none⟩))) (hkt : w.cell? ⟨kt0, 0, none⟩ = some (.string t)) (hn1 : kb0 ≠ s) (hn2 : kt0 ≠ s)
    (hx : x ≤ 1099511627776) (hz : z ≤ 1099511627776) (hlen : l.length + x + z + t.size ≤ 140737488355328) :
    Calls Tryd.prog 37 #[.pointer (some ⟨s, 0, none⟩), .func (.func 38) #[] #[.pointer (some ⟨kb0, 0, none⟩), .pointer (some ⟨kt0, 0, none⟩)]] w fun e w' => e = .returned (.tuple #[]) ∧ ∃ v', S7 w' s v' (l ++ (padOf (!f) x ++ List.replicate z 32 ++ t.data.toList)) true x (if f then (y : Int) else x) z ∧ Next w v v' ∧ Kept (Own s v) w w' := by
  have hkb2 : kb0 < w.heap.size := cell_lt hkb
  have hkt2 : kt0 < w.heap.size := cell_lt hkt
  have hs := hS.blk.lt
  have hS := Lib.hid hS
  obtain ⟨R, hR⟩ : ∃ R, padOf (!f) x ++ List.replicate z 32 ++ t.data.toList = R := ⟨_, rfl⟩
  obtain ⟨Y, hY⟩ : ∃ Y : Int, (if f then (y : Int) else x) = Y := ⟨_, rfl⟩
  rw [hR, hY]
  replace hR := Lib.hid hR; replace hY := Lib.hid hY
  have hmf : ∀ (fn : Fn) (first cap : Array Value) (w : World), (Instr.makeFunc fn first cap).run Tryd.prog w = .ok (.func fn first cap) w := fun _ _ _ _ => rfl
  go_enter_defers Tryd.func37, Tryd.ntmps37
  go_wp2_with fail
  have hb1 : Below w.heap.size w ((w.alloc (.cells #[.pointer (some ⟨s, 0, none⟩)] 22)).alloc (.cells #[.pointer none, .slice none 0 0] TB)) := ((Below.refl _ _).alloc (Nat.le_refl _) _).alloc (by simp) _
  have hB1 := bld_new (w.alloc (.cells #[.pointer (some ⟨s, 0, none⟩)] 22))
  have hz1 : (w.alloc (.cells #[.pointer (some ⟨s, 0, none⟩)] 22)).heap.size = w.heap.size + 1 := by simp
  rw [hz1] at hB1
  have hk1 := (Blk.new w #[.pointer (some ⟨s, 0, none⟩)] 22).alloc (.cells #[.pointer none, .slice none 0 0] TB)
  refine (sk_text1 s kb0 kt0 (w.heap.size + 1) v l f x y z t [] _ ((hS.out.alloc _).alloc _) (by omega) ((hb1.cell (p := ⟨kb0, 0, none⟩) hkb2).trans hkb) (by omega) ((hb1.cell (p := ⟨kt0, 0, none⟩) hkt2).trans hkt) (by omega) hn1 hn2 hB1 hx hz (by simp; omega)).mono ?_
  rintro e w2 ⟨rfl, hB2, hk2, hb2⟩
  rw [hR.out] at hB2
  rw [hY.out] at hb2
  have hbuf2 : Buf w2 (s + 1) v l := ((hS.out.alloc _).alloc _).buf.kept hk2 (fun i hi e => by have := hS.out.buf.lt i hi; have : i = s ∨ w.heap.size + 1 ≤ i := e; omega)
  have hS2 := Lib.hid (⟨hb2, hbuf2⟩ : S7 w2 s v l true x Y z)
  have hbx : w2.cell? ⟨w.heap.size, 0, none⟩ = some (.pointer (some ⟨s, 0, none⟩)) := by
    have := hk1.kept hk2 (fun e => by have : w.heap.size = s ∨ w.heap.size + 1 ≤ w.heap.size := e; omega)
    simpa using this.cell 0
  replace hB2 := Lib.hid hB2; replace hk2 := Lib.hid hk2; replace hk1 := Lib.hid hk1
  clear hb2 hbuf2 hkb hkt hB1
  go_wp2_with fail
  have hzw : w.heap.size + 2 ≤ w2.heap.size := by have := hk2.out.size; simpa using this
  have hRl : R.length ≤ x + z + t.size := by
    rw [← hR.out]
    have h1 : (padOf (!f) x).length ≤ x := by unfold padOf; split <;> simp
    have h2 : t.data.toList.length = t.size := Array.length_toList
    simp only [List.length_append, List.length_replicate, h2]; omega
  refine leaves_cons (f := 61) (args := #[.pointer (some ⟨w.heap.size, 0, none⟩), .pointer (some ⟨w.heap.size + 1, 0, none⟩)]) (by simp) (by simp [go_sem]) ?_
  refine (sk_puts s w.heap.size (w.heap.size + 1) v l R true x Y z _ w2 hS2.out hs (fun k hk => (hS.out.buf.lt k hk).2) hbx (by omega) (by simpa using hB2.out) (by omega)).mono ?_
  rintro e u' w3 ⟨rfl, rfl, v', hS3, hn3, hk3⟩
  have k12 : Kept (Own s v) w w2 := (Kept.of_below (own := Own s v) hb1).trans hk2.out (fun i hi e => by rcases e with e | e <;> first | exact .inl e | omega)
  have k13 := k12.trans hk3 (fun i hi e => by rcases e with e | e <;> first | exact e | omega)
  have hn := (Next.refl w v).trans (by omega) hn3
  simp [Leaves, settle, results, Tryd.results37, go_sem]
  exact ⟨v', hS3, hn, k13⟩
set_option maxHeartbeats 4000000 in
set_option maxRecDepth 100000 in
theorem sk_gathF (s : Nat) (v : Value) (l : List UInt8) (f : Bool) (x y z : Int) (w : World) (hS : S7 w s v l f x y z) (hlen : l.length + 1 ≤ 140737488355328) :
    Calls Tryd.prog 37 #[.pointer (some ⟨s, 0, none⟩), .func (.func 41) #[] #[]] w fun e w' => e = .returned (.tuple #[]) ∧ ∃ v', S7 w' s v' (l ++ [10]) f x y z ∧ Next w v v' ∧ Kept (Own s v) w w' := by
  have hs := hS.blk.lt
  have hS := Lib.hid hS
  have hmf : ∀ (fn : Fn) (first cap : Array Value) (w : World), (Instr.makeFunc fn first cap).run Tryd.prog w = .ok (.func fn first cap) w := fun _ _ _ _ => rfl
  go_enter_defers Tryd.func37, Tryd.ntmps37
  go_wp2_with fail
  have hb1 : Below w.heap.size w ((w.alloc (.cells #[.pointer (some ⟨s, 0, none⟩)] 22)).alloc (.cells #[.pointer none, .slice none 0 0] TB)) := ((Below.refl _ _).alloc (Nat.le_refl _) _).alloc (by simp) _
  have hB1 := bld_new (w.alloc (.cells #[.pointer (some ⟨s, 0, none⟩)] 22))
  have hz1 : (w.alloc (.cells #[.pointer (some ⟨s, 0, none⟩)] 22)).heap.size = w.heap.size + 1 := by simp
  rw [hz1] at hB1
  have hk1 := (Blk.new w #[.pointer (some ⟨s, 0, none⟩)] 22).alloc (.cells #[.pointer none, .slice none 0 0] TB)
  refine (sk_feed1 (w.heap.size + 1) (w.heap.size + 1) [] _ hB1 (by simp) (by simp)).mono ?_
  rintro e w2 ⟨rfl, hB2, hq2, _⟩
  have hS2 := Lib.hid (((hS.out.alloc _).alloc _).low (by omega) (fun k hk => by have := (hS.out.buf.lt k hk).2; omega) hq2 : S7 w2 s v l f x y z)
  have hbx : w2.cell? ⟨w.heap.size, 0, none⟩ = some (.pointer (some ⟨s, 0, none⟩)) := by
    have := hk1.below hq2 (by omega)
    simpa using this.cell 0
  replace hB2 := Lib.hid hB2; replace hq2 := Lib.hid hq2; replace hk1 := Lib.hid hk1
  clear hB1
  go_wp2_with fail
  have hzw : w.heap.size + 2 ≤ w2.heap.size := by have := hq2.out.size; simpa using this
  have hB3 : Lib.IsBuilderF TB TU (w.heap.size + 1) (w.heap.size + 1) (Lib.byteCells [10]) w2 := .inr (by have := hB2.out; simpa [strCells, byteCells] using this)
  refine leaves_cons (f := 61) (args := #[.pointer (some ⟨w.heap.size, 0, none⟩), .pointer (some ⟨w.heap.size + 1, 0, none⟩)]) (by simp) (by simp [go_sem]) ?_
  refine (sk_puts s w.heap.size (w.heap.size + 1) v l [10] f x y z _ w2 hS2.out hs (fun k hk => (hS.out.buf.lt k hk).2) hbx (by omega) hB3 (by simpa using hlen)).mono ?_
  rintro e u' w3 ⟨rfl, rfl, v', hS3, hn3, hk3⟩
  have k12 : Kept (Own s v) w w2 := (Kept.of_below (own := Own s v) hb1).trans (Kept.of_below' (s := w.heap.size + 1) hq2.out) (fun i hi e => by rcases e with e | e <;> omega)
  have k13 := k12.trans hk3 (fun i hi e => by rcases e with e | e <;> first | exact e | omega)
  have hn := (Next.refl w v).trans (by omega) hn3
  simp [Leaves, settle, results, Tryd.results37, go_sem]
  exact ⟨v', hS3, hn, k13⟩
end Go.Proofs.YtphcmbdmkhmfbaaDoor
