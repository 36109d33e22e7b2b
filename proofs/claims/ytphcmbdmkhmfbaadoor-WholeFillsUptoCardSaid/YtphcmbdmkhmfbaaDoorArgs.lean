/- A script among the arguments: what it reads as, and that it reads so behind the call. -/
import Derived.Test.YtphcmbdmkhmfbaaDoorScript
import Derived.Test.YtphcmbdmkhmfbaaDoorRows
import Derived.ProofKit
import Derived.OpenShut
import Derived.Deep.Slices
import Derived.WideKeyArgs
import Derived.Carry
namespace Go.Proofs.YtphcmbdmkhmfbaaDoor
open Go.ChangeShapes Go.WideShapes Go.ChangeAt Go.RowKit
theorem laidOut : laidOutB Tryd.prog = true := by kernel_rfl
/-- What was read ahead of the call reads so behind it. -/
theorem trod_after {H : Type} {enc : TypeId × Value → H} {t : TypeId} (hr : Tryd.prog.readableRec t = true) (hrow : t < Tryd.prog.types.size) {W W' : World} {v : Value} {d : DataW H} {ps : List MemPlace}
    (h : DataW.Trod enc Tryd.prog W 0 (fun _ => true) true t v d ps) (hb : Below W.heap.size W W') (hlt : ∀ x ∈ ps, x.block < W.heap.size) (sp : Nat → Bool) (hs : ∀ x ∈ ps, sp x.block = true) : DataW.Trod enc Tryd.prog W' 0 sp true t v d ps :=
  WideElems.Trod_stays laidOut hr hrow h (fun x hx => hb.same (hlt x hx)) hs
theorem cells_act : Tryd.prog.cellsOf 37 = 4 := by kernel_rfl
theorem cells_1 : Tryd.prog.cellsOf 3 = 1 := by kernel_rfl
theorem cells_b : Tryd.prog.cellsOf 4 = 1 := by kernel_rfl
theorem cells_s : Tryd.prog.cellsOf 9 = 1 := by kernel_rfl
set_option maxHeartbeats 1000000 in
set_option maxRecDepth 100000 in
theorem open_act {H : Type} {enc : TypeId × Value → H} {W : World} {base fuel : Nat} {sp : Nat → Bool} {hd : Bool} {cs : List Value} {x : DataW H × List MemPlace} (h : DataW.trod enc Tryd.prog W base sp hd fuel 37 cs = some x) :
    ∃ a : ActV, cs = [.int .i64 a.k, .bool a.o, .string a.t, .int .i64 a.n] := by
  obtain ⟨xs, n, _, rfl, hl, hlen, hf⟩ := DataW.trod_struct Tryd.underlying37 h
  rw [cells_act] at hl
  match cs, hl with
  | [c0, c1, c2, c3], _ =>
    match xs, hlen with
    | [y0, y1, y2, y3], _ =>
      have g0 := hf 0 _ rfl; have g1 := hf 1 _ rfl; have g2 := hf 2 _ rfl; have g3 := hf 3 _ rfl
      simp [cells_1, cells_b, cells_s] at g0 g1 g2 g3
      obtain ⟨k, e0, _⟩ := DataW.trod_int Tryd.underlying3 g0
      obtain ⟨o, e1, _⟩ := DataW.trod_bool Tryd.underlying4 g1
      obtain ⟨t, e2, _⟩ := DataW.trod_string Tryd.underlying9 g2
      obtain ⟨m, e3, _⟩ := DataW.trod_int Tryd.underlying3 g3
      simp at e0 e1 e2 e3
      exact ⟨⟨k, o, t, m⟩, by rw [e0, e1, e2, e3]⟩
set_option maxRecDepth 100000 in
theorem open_acts {H : Type} {enc : TypeId × Value → H} {W : World} {base b0 : Nat} {r : Reach} {sp : Nat → Bool} {hd : Bool} {v : Value} {d : DataW H} {ps : List MemPlace} (hval : Value.okWide Tryd.prog W r b0 30 v) (h : DataW.Trod enc Tryd.prog W base sp hd 30 v d ps) :
    ∃ ao cap S, v = .slice ao (List.length S) cap ∧ Acts W ao S := by
  obtain ⟨a, len, cap, rfl⟩ := okWide_slice Tryd.underlying30 hval
  obtain ⟨fuel, hf⟩ := h
  simp only [Value.cells] at hf
  rcases Go.Deep.open_slice Tryd.underlying30 hf with ⟨h0, _⟩ | ⟨a', len', cap', m, n, D, Pl, hcs, _, hl, _, hm, _, hel⟩
  · simp at h0
    obtain ⟨rfl, rfl, rfl⟩ := h0
    exact ⟨none, 0, [], rfl, fun i a ha => by simp at ha⟩
  · simp at hcs
    obtain ⟨rfl, rfl, rfl⟩ := hcs
    have hlm : len ≤ m := by rw [hm]; split <;> omega
    have each : ∀ i, i < len → ∃ q : ActV, ∀ j, j < 4 → W.cell? ((a'.add (i * 4)).add j) = [Value.int .i64 q.k, .bool q.o, .string q.t, .int .i64 q.n][j]? := fun i hi => by
      obtain ⟨cs', h1, h2⟩ := hel i (by omega)
      obtain ⟨q, rfl⟩ := open_act h2
      rw [cells_act] at h1
      obtain ⟨_, _, hc⟩ := World.cells?_some h1
      exact ⟨q, hc⟩
    obtain ⟨f, hf'⟩ : ∃ f : Nat → ActV, ∀ i, i < len → ∀ j, j < 4 → W.cell? ((a'.add (i * 4)).add j) = [Value.int .i64 (f i).k, .bool (f i).o, .string (f i).t, .int .i64 (f i).n][j]? :=
      ⟨fun i => if h : i < len then Classical.choose (each i h) else ⟨0, false, ⟨#[]⟩, 0⟩, fun i hi => by simp only [hi, dif_pos]; exact Classical.choose_spec (each i hi)⟩
    refine ⟨some a', cap, (List.range len).map f, by simp, fun i q hq => ?_⟩
    have hi : i < len := by have := (List.getElem?_eq_some_iff.1 hq).1; simpa using this
    have hqf : f i = q := by simpa [hi] using hq
    subst hqf
    have hsp : a'.spot = none := by
      have h0 := hf' 0 (by omega) 0 (by omega)
      cases hs : a'.spot with
      | none => rfl
      | some z =>
        simp [Addr.add, World.cell?, hs] at h0
        split at h0 <;> simp at h0
    obtain ⟨b, o, s⟩ := a'
    simp only at hsp
    subst hsp
    have go : ∀ j, j < 4 → W.cell? ⟨b, o + i * 4 + j, none⟩ = W.cell? (((⟨b, o, none⟩ : Addr).add (i * 4)).add j) := fun j _ => by
      congr 1
      unfold Addr.add
      by_cases h1 : i * 4 = 0 <;> by_cases h2 : j = 0 <;> simp [h1, h2]
    exact ⟨b, o, rfl, by have := (go 0 (by omega)).trans (hf' i hi 0 (by omega)); simpa using this, (go 1 (by omega)).trans (hf' i hi 1 (by omega)), (go 2 (by omega)).trans (hf' i hi 2 (by omega)), (go 3 (by omega)).trans (hf' i hi 3 (by omega))⟩
end Go.Proofs.YtphcmbdmkhmfbaaDoor
