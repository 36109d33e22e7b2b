/- The two tables of package width, out of the row's condition on the listed variables; and a world that meets it. -/
import Derived.Test.YtphcmbdmkhmfbaaDoorWidth
import Derived.Test.YtphcmbdmkhmfbaaDoorRows
import Derived.ProofKit
import Derived.LaidMore
import Derived.OpenShut
import Derived.ChangeSame
import Derived.Stop.Joined
namespace Go.Proofs.YtphcmbdmkhmfbaaDoor
open Go.ChangeShapes Go.WideShapes Go.ChangeAt Go.RowKit
def pairD {H : Type} : List Int → List (DataW H)
  | a :: b :: r => .agg [.lit (.int .i64 a), .lit (.int .i64 b)] :: pairD r
  | _ => []
theorem pairD_at {H : Type} : ∀ (L : List Int) (i : Nat) (x : DataW H), (pairD L)[i]? = some x → ∃ a b, L[2 * i]? = some a ∧ L[2 * i + 1]? = some b ∧ x = .agg [.lit (.int .i64 a), .lit (.int .i64 b)]
  | [], i, x, h => by simp [pairD] at h
  | [_], i, x, h => by simp [pairD] at h
  | a :: b :: r, 0, x, h => ⟨a, b, rfl, rfl, by simpa [pairD] using h.symm⟩
  | a :: b :: r, i + 1, x, h => by
    obtain ⟨c, d, h1, h2, h3⟩ := pairD_at r i x (by simpa [pairD] using h)
    exact ⟨c, d, by rw [show 2 * (i + 1) = 2 * i + 1 + 1 by omega]; simpa using h1, by rw [show 2 * (i + 1) + 1 = 2 * i + 1 + 1 + 1 by omega]; simpa using h2, h3⟩
theorem cells_int : Tryd.prog.cellsOf 3 = 1 := by kernel_rfl
theorem cells_points : Tryd.prog.cellsOf 101 = 2 := by kernel_rfl
set_option maxHeartbeats 1000000 in
theorem pair_cells {H : Type} {enc : TypeId × Value → H} {W : World} {base fuel : Nat} {sp : Nat → Bool} {hd : Bool} {T : TypeId} {n : Nat} {cs : List Value} {L : List Int} {ps : List MemPlace} (hu : Tryd.prog.underlying T = some (.array n 101)) (hL : L.length = 2 * n)
    (h : DataW.trod enc Tryd.prog W base sp hd fuel T cs = some (.agg (pairD L), ps)) : ∀ (j : Nat) (v : Value), (L.map (Value.int .i64))[j]? = some v → cs[j]? = some v := by
  obtain ⟨xs, m, rfl, hx, hl, hn, hel⟩ := DataW.trod_array hu h
  simp only [Prod.mk.injEq, DataW.agg.injEq] at hx
  rw [cells_points] at hel
  intro j v hj
  have hjl : j < 2 * n := by
    have := (List.getElem?_eq_some_iff.1 hj).1
    simpa [hL] using this
  have hi : j / 2 < n := by omega
  have he := hel (j / 2) hi
  obtain ⟨x, hxe⟩ : ∃ x, xs[j / 2]? = some x := ⟨_, List.getElem?_eq_getElem (by omega)⟩
  rw [hxe] at he
  obtain ⟨y0, y1, n2, rfl, hl2, h0, h1⟩ := trod_struct2 Tryd.underlying101 he
  have hd := pairD_at (H := H) L (j / 2) (.agg [y0.1, y1.1]) (by rw [hx.1]; simp [hxe])
  obtain ⟨a, b, ha, hb, hab⟩ := hd
  simp only [DataW.agg.injEq, List.cons.injEq, and_true] at hab
  obtain ⟨k0, e0, f0, _⟩ := DataW.trod_int Tryd.underlying3 h0
  obtain ⟨k1, e1, f1, _⟩ := DataW.trod_int Tryd.underlying3 h1
  rw [f0, f1] at hab
  simp only [DataW.lit.injEq, Lit.int.injEq, true_and] at hab
  obtain ⟨rfl, rfl⟩ := hab
  have g0 : cs[2 * (j / 2)]? = some (.int .i64 k0) := by
    have := congrArg (fun l => l[0]?) e0
    rw [cells_int] at this
    simpa [List.getElem?_take, List.getElem?_drop, Nat.mul_comm] using this
  have g1 : cs[2 * (j / 2) + 1]? = some (.int .i64 k1) := by
    have := congrArg (fun l => l[0]?) e1
    rw [cells_int] at this
    simpa [List.getElem?_take, List.getElem?_drop, Nat.mul_comm] using this
  rcases Nat.mod_two_eq_zero_or_one j with h2 | h2
  · have ej : j = 2 * (j / 2) := by omega
    rw [ej] at hj ⊢
    rw [List.getElem?_map, ha] at hj
    rw [g0]; exact hj
  · have ej : j = 2 * (j / 2) + 1 := by omega
    rw [ej] at hj ⊢
    rw [List.getElem?_map, hb] at hj
    rw [g1]; exact hj
theorem gD : Tryd.prog.globalNamed "colophon/width.double" = some 0 := by kernel_rfl
theorem gN : Tryd.prog.globalNamed "colophon/width.none" = some 1 := by kernel_rfl
theorem tD : (Tryd.prog.globals[0]?).map (·.type) = some 102 := by kernel_rfl
theorem tN : (Tryd.prog.globals[1]?).map (·.type) = some 103 := by kernel_rfl
abbrev laidV : List (String × DataW Unit) := [("colophon/width.double", Rows.laid_colophon_width_double), ("colophon/width.none", Rows.laid_colophon_width_none)]
theorem tabs_of_laid {W : World} (h : laidMetH Tryd.prog laidV W) : Tabs W := by
  rw [MakeChecks.laidMetH_plain _ _ _ (by kernel_rfl)] at h
  obtain ⟨ps, ⟨g0, t0, cs0, f0, p0, q0, hg0, ht0, hv0, hd0, ⟨g1, t1, cs1, f1, p1, q1, hg1, ht1, hv1, hd1, _, _⟩, _⟩, _, _⟩ := h
  obtain rfl := Option.some.inj (gD.symm.trans hg0)
  obtain rfl := Option.some.inj (gN.symm.trans hg1)
  obtain rfl := Option.some.inj (tD.symm.trans ht0)
  obtain rfl := Option.some.inj (tN.symm.trans ht1)
  refine ⟨fun j v hj => ?_, fun j v hj => ?_⟩
  · have := pair_cells (L := dblL) Tryd.underlying102 (by decide) hd0 j v hj
    rw [Nat.zero_add, World.var?_cell hg0 hv0 j]; simpa using this
  · have := pair_cells (L := nonL) Tryd.underlying103 (by decide) hd1 j v hj
    rw [Nat.zero_add, World.var?_cell hg1 hv1 j]; simpa using this
/-- The door's own heap meets the condition. -/
theorem door_met (os : Os) (args : Array Value) : laidMetH Tryd.prog laidV ((World.doorLaid Tryd.prog 400 os).forCall (fun _ _ => 0) ⟨#[], args, []⟩).memory :=
  laidMetH_of_parts3 (fuel := 8) (laidMet_of_run' 8 (by kernel_rfl) (by kernel_rfl)) (by kernel_rfl) (by kernel_rfl)
end Go.Proofs.YtphcmbdmkhmfbaaDoor
