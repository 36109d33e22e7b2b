/- place.Line tells a line of a text. Conditions: shorter than 2^62 - 4 bytes; the number is one of 64 bits. -/
import Derived.Test.YtdphhmigbbgjmaaDoorPlaceR
namespace Go.Proofs.YtdphhmigbbgjmaaDoor
open Go.RowKit Go.Lib Go.Shelf
attribute [local go_sem] Oper.semAt_some
def LI (w : World) (n : Int) (pre : List Bs) (W : World) : Prop :=
  Blk W w.heap.size #[.int .i64 (wrap64 (n - pre.length))] 3 ∧ Blk W (w.heap.size + 1) #[.string ⟨#[]⟩] 9 ∧ Blk W (w.heap.size + 2) #[.bool false] 4 ∧ Below w.heap.size w W ∧ (n < 1 ∨ (pre.length : Int) < n)
def LIx (w : World) (n : Int) (pre : List Bs) (W : World) : Prop :=
  ∃ q x, pre = q ++ [x] ∧ n = q.length + 1 ∧ Blk W (w.heap.size + 1) #[.string ⟨x.toArray⟩] 9 ∧ Blk W (w.heap.size + 2) #[.bool true] 4 ∧ Below w.heap.size w W
theorem below_sim {H B : Nat} {w W W' : World} {b : Nat} (h : Below b w W) (k : Sim B H W W') (h1 : b ≤ H) (h2 : b ≤ B) : Below b w W' :=
  h.trans ⟨k.os, k.tape, k.output, k.size, fun i hi => k.same i (by omega) (by omega)⟩
theorem toArray_data (x : ByteArray) : (⟨x.data.toList.toArray⟩ : ByteArray) = x := by simp
set_option maxRecDepth 100000 in
set_option maxHeartbeats 1000000 in
theorem place_Line (s : ByteArray) (n : Int) (w : World) (hs : s.size < 4611686018427387900) (hn : wrap64 n = n) :
    Calls Tryd.prog 56 #[.string s, .int .i64 n] w fun e w' => e = .returned (lineV s.data.toList n) ∧ Below w.heap.size w w' := by
  refine (callsIn_wide (n := 3)).1 ?_
  refine callsIn_of_wp_marks Tryd.func56 rfl trivial ?_ rfl
  simp only [Tryd.ntmps56, List.size_toArray, List.length_cons, List.length_nil, Nat.reduceAdd, Nat.reduceSub, Array.replicate_succ, Array.replicate_zero, List.push_toArray, List.append_toArray, List.nil_append, List.cons_append]
  have hn := Lib.hid hn
  gi_wp2_with (refine ⟨trivial, ?_⟩; gi_at_call 104; refine (callsIn_wide.2 (place_lines _ _)).mono ?_; rintro e w' ⟨rfl, rfl⟩)
  obtain ⟨W0, hW0⟩ : ∃ W0, (((w.alloc (.cells #[.int .i64 n] 3)).alloc (.cells #[.string ⟨#[]⟩] 9)).alloc (.cells #[.bool false] 4)).alloc (.cells #[.string s] 9) = W0 := ⟨_, rfl⟩
  have hsz : W0.heap.size = w.heap.size + 4 := by rw [← hW0]; simp
  have hB0 : Blk W0 w.heap.size #[.int .i64 n] 3 := by rw [← hW0]; exact (((Blk.new _ _ _).alloc _).alloc _).alloc _
  have hB1 : Blk W0 (w.heap.size + 1) #[.string ⟨#[]⟩] 9 := by
    rw [← hW0]; have := ((Blk.new (w.alloc (.cells #[.int .i64 n] 3)) #[.string ⟨#[]⟩] 9).alloc (.cells #[.bool false] 4)).alloc (.cells #[.string s] 9); rwa [World.size_alloc] at this
  have hB2 : Blk W0 (w.heap.size + 2) #[.bool false] 4 := by
    rw [← hW0]; have := (Blk.new ((w.alloc (.cells #[.int .i64 n] 3)).alloc (.cells #[.string ⟨#[]⟩] 9)) #[.bool false] 4).alloc (.cells #[.string s] 9); rwa [World.size_alloc, World.size_alloc] at this
  have hB3 : Blk W0 (w.heap.size + 3) #[.string s] 9 := by
    rw [← hW0]; have := Blk.new (((w.alloc (.cells #[.int .i64 n] 3)).alloc (.cells #[.string ⟨#[]⟩] 9)).alloc (.cells #[.bool false] 4)) #[.string s] 9; rwa [World.size_alloc, World.size_alloc, World.size_alloc] at this
  have hb0 : Below w.heap.size w W0 := by
    rw [← hW0]; exact ((((Below.refl _ _).alloc (Nat.le_refl _) _).alloc (by simp) _).alloc (by simp; omega) _).alloc (by simp; omega) _
  rw [hW0]
  clear hW0
  have hll := linesOf_len s.data.toList
  rw [size_len] at hll
  have hll := Lib.hid hll
  refine range_lines (w.heap.size + 3) s (by omega) rfl hB3 rfl (LI w n) (LIx w n)
    (fun xs A B h k => ⟨h.1.sim k (by omega) (by omega), h.2.1.sim k (by omega) (by omega), h.2.2.1.sim k (by omega) (by omega), below_sim h.2.2.2.1 k (by omega) (by omega), h.2.2.2.2⟩)
    (fun xs A B h k => by obtain ⟨q, x, h1, h2, h3, h4, h5⟩ := h; exact ⟨q, x, h1, h2, h3.sim k (by omega) (by omega), h4.sim k (by omega) (by omega), below_sim h5 k (by omega) (by omega)⟩)
    ⟨by simp [hn.out]; exact hB0, hB1, hB2, hb0, by simp; omega⟩
    (fun x => { tmps := #[.string s, .int .i64 n, undef, .pointer (some ⟨w.heap.size, 0, none⟩), .pointer (some ⟨w.heap.size + 1, 0, none⟩), .pointer (some ⟨w.heap.size + 1 + 1, 0, none⟩), .string x, .string s, .func (.func 144) #[] #[.pointer (some ⟨w.heap.size + 1 + 1 + 1, 0, none⟩)], .string x, undef, undef, undef, undef, undef], defers := [] }) ?assign ?body ?done ?stop
  case assign =>
    intro l x W K hK
    gi_wp2
    exact hK
  case body =>
    rintro l pre x W ⟨b0, b1, b2, hb, hpn⟩ hpre hWs
    have hpl : Hid (pre.length ≤ s.size) := by have := hpre.length_le; simp at this; have := hll.out; show pre.length ≤ s.size; omega
    obtain ⟨m, hm⟩ : ∃ m, wrap64 (n - pre.length) = m := ⟨_, rfl⟩
    rw [hm] at b0
    have hw : Hid (wrap64 (m - 1) = wrap64 (n - (pre.length + 1))) := by rw [← hm]; show _ = _; unfold wrap64; omega
    clear hm
    have k0 := b0.cell 0; have k1 := b1.cell 0; have k2 := b2.cell 0
    simp at k0 k1 k2
    have f0 := b0.frozen 0; have f1 := b1.frozen 0; have f2 := b2.frozen 0
    have hkeep : ∀ (W' : World), (∀ k, k < w.heap.size + 3 ∨ W'.heap[k]? = W.heap[k]?) → Keep (w.heap.size + 3) W0.heap.size W W' := fun W' h k hk _ => (h k).resolve_left (by omega)
    by_cases he : n = (pre.length : Int) + 1
    · have ht : (wrap64 (m - 1) == 0) = true := by rw [hw.out, he]; simp; unfold wrap64; omega
      have he' := Lib.hid he
      clear he
      gi_wp2
      have q0 := (b0.set 0 (.int .i64 (wrap64 (m - 1))))
      have q1 := ((b1.other ⟨w.heap.size, 0, none⟩ (.int .i64 (wrap64 (m - 1))) (by simp)).set 0 (.string x)).other ⟨w.heap.size + 2, 0, none⟩ (.bool true) (by simp)
      have q2 := ((b2.other ⟨w.heap.size, 0, none⟩ (.int .i64 (wrap64 (m - 1))) (by simp)).other ⟨w.heap.size + 1, 0, none⟩ (.string x) (by simp)).set 0 (.bool true)
      simp at q1 q2
      refine ⟨hkeep _ fun k => ?_, pre, x.data.toList, rfl, he'.out, by rw [toArray_data]; exact q1, q2, ((hb.setCell (p := ⟨w.heap.size, 0, none⟩) (by simp) _).setCell (p := ⟨w.heap.size + 1, 0, none⟩) (by simp) _).setCell (p := ⟨w.heap.size + 2, 0, none⟩) (by simp) _⟩
      by_cases hk : k < w.heap.size + 3
      · exact .inl hk
      · right
        rw [Below.heap_setCell _ _ _ _ (by simp; omega), Below.heap_setCell _ _ _ _ (by simp; omega), Below.heap_setCell _ _ _ _ (by simp; omega)]
    · have ht : (wrap64 (m - 1) == 0) = false := by
        rw [hw.out]; have := hn.out; have := hpl.out; rw [beq_eq_false_iff_ne]; intro h; unfold wrap64 at *; omega
      have he' := Lib.hid he
      clear he
      gi_wp2
      have q0 := (b0.set 0 (.int .i64 (wrap64 (m - 1))))
      simp at q0
      refine ⟨hkeep _ fun k => ?_, (by rw [show (((pre ++ [x.data.toList]).length : Nat) : Int) = pre.length + 1 from (by simp), ← hw.out]; exact q0), b1.other _ _ (by simp), b2.other _ _ (by simp), hb.setCell (p := ⟨w.heap.size, 0, none⟩) (by simp) _, by have := he'.out; simp; omega⟩
      by_cases hk : k < w.heap.size + 3
      · exact .inl hk
      · right
        rw [Below.heap_setCell _ _ _ _ (by simp; omega)]
  case done =>
    rintro W ⟨b0, b1, b2, hb, hpn⟩ hK
    have k1 := b1.cell 0; have k2 := b2.cell 0
    simp at k1 k2
    have f1 := b1.frozen 0; have f2 := b2.frozen 0
    have fin : Hid (lineV s.data.toList n = .tuple #[.string ⟨#[]⟩, .bool false]) := by
      unfold lineV; rw [getLine_none _ _ hpn]; exact Lib.hid rfl
    gi_wp2
    have hK' : ((W.setCell ⟨w.heap.size + 1, 0, none⟩ (.string ⟨#[]⟩)).setCell ⟨w.heap.size + 2, 0, none⟩ (.bool false)).heap[W0.heap.size]? = some (.deferred (some [])) := by
      rw [Below.heap_setCell _ _ _ _ (by simp; omega), Below.heap_setCell _ _ _ _ (by simp; omega)]; exact hK
    refine ⟨by simp, .inl ⟨_, _, rfl, run_takeDeferred hK', ?_⟩⟩
    have q1 := ((b1.set 0 (.string ⟨#[]⟩)).other ⟨w.heap.size + 2, 0, none⟩ (.bool false) (by simp)).sim (Sim.putObj (w.heap.size + 3) W0.heap.size _ W0.heap.size (.deferred none) (Nat.le_refl _)) (by omega) (by omega)
    have q2 := ((b2.other ⟨w.heap.size + 1, 0, none⟩ (.string ⟨#[]⟩) (by simp)).set 0 (.bool false)).sim (Sim.putObj (w.heap.size + 3) W0.heap.size _ W0.heap.size (.deferred none) (Nat.le_refl _)) (by omega) (by omega)
    have q1 := q1.cell 0; have q2 := q2.cell 0
    simp at q1 q2
    refine ⟨.tuple #[.string ⟨#[]⟩, .bool false], ?_, by rw [fin.out], ?_⟩
    · simp [results, Tryd.results56, go_sem, q1, q2]
    · exact below_sim ((hb.setCell (p := ⟨w.heap.size + 1, 0, none⟩) (by simp) _).setCell (p := ⟨w.heap.size + 2, 0, none⟩) (by simp) _) (Sim.putObj (w.heap.size + 3) W0.heap.size _ W0.heap.size (.deferred none) (Nat.le_refl _)) (by omega) (by omega)
  case stop =>
    rintro pre W hpre ⟨q, x, rfl, he, b1, b2, hb⟩ hK
    have fin : Hid (lineV s.data.toList n = .tuple #[.string ⟨x.toArray⟩, .bool true]) := by
      obtain ⟨r, hr⟩ := hpre
      unfold lineV; rw [getLine_at _ q x r n (by rw [← hr]; simp) he]; exact Lib.hid rfl
    have k1 := b1.cell 0; have k2 := b2.cell 0
    simp at k1 k2
    gi_wp2
    refine ⟨by simp, .inl ⟨_, _, rfl, run_takeDeferred hK, ?_⟩⟩
    have q1 := b1.sim (Sim.putObj (w.heap.size + 3) W0.heap.size _ W0.heap.size (.deferred none) (Nat.le_refl _)) (by omega) (by omega)
    have q2 := b2.sim (Sim.putObj (w.heap.size + 3) W0.heap.size _ W0.heap.size (.deferred none) (Nat.le_refl _)) (by omega) (by omega)
    have q1 := q1.cell 0; have q2 := q2.cell 0
    simp at q1 q2
    refine ⟨.tuple #[.string ⟨x.toArray⟩, .bool true], ?_, by rw [fin.out], ?_⟩
    · simp [results, Tryd.results56, go_sem, q1, q2]
    · exact below_sim hb (Sim.putObj (w.heap.size + 3) W0.heap.size _ W0.heap.size (.deferred none) (Nat.le_refl _)) (by omega) (by omega)

end Go.Proofs.YtdphhmigbbgjmaaDoor
