/- The tables of package utf8, out of the row's condition on the listed variables; and a world that meets it. -/
import Derived.Test.YtgjlpkocieffeaaDoorFull
import Derived.Test.YtgjlpkocieffeaaDoorRows
import Derived.ProofKit
import Derived.LaidMore
import Derived.OpenShut
import Derived.ChangeSame
import Derived.Stop.Joined
import Derived.Lay
namespace Go.Proofs.YtgjlpkocieffeaaDoor
open Go.ChangeShapes Go.WideShapes Go.ChangeAt Go.RowKit
def pairU {H : Type} : List Int → List (DataW H)
  | a :: b :: r => .agg [.lit (.int .u8 a), .lit (.int .u8 b)] :: pairU r
  | _ => []
theorem pairU_at {H : Type} : ∀ (L : List Int) (i : Nat) (x : DataW H), (pairU L)[i]? = some x → ∃ a b, L[2 * i]? = some a ∧ L[2 * i + 1]? = some b ∧ x = .agg [.lit (.int .u8 a), .lit (.int .u8 b)]
  | [], i, x, h => by simp [pairU] at h
  | [_], i, x, h => by simp [pairU] at h
  | a :: b :: r, 0, x, h => ⟨a, b, rfl, rfl, by simpa [pairU] using h.symm⟩
  | a :: b :: r, i + 1, x, h => by
    obtain ⟨c, d, h1, h2, h3⟩ := pairU_at r i x (by simpa [pairU] using h)
    exact ⟨c, d, by rw [show 2 * (i + 1) = 2 * i + 1 + 1 by omega]; simpa using h1, by rw [show 2 * (i + 1) + 1 = 2 * i + 1 + 1 + 1 by omega]; simpa using h2, h3⟩
theorem cells_u8 : Tryd.prog.cellsOf 5 = 1 := by kernel_rfl
theorem cells_acc : Tryd.prog.cellsOf 39 = 2 := by kernel_rfl
set_option maxHeartbeats 1000000 in
theorem acc_cells {H : Type} {enc : TypeId × Value → H} {W : World} {base fuel : Nat} {sp : Nat → Bool} {hd : Bool} {T : TypeId} {n : Nat} {cs : List Value} {L : List Int} {ps : List MemPlace} (hu : Tryd.prog.underlying T = some (.array n 39)) (hL : L.length = 2 * n)
    (h : DataW.trod enc Tryd.prog W base sp hd fuel T cs = some (.agg (pairU L), ps)) : ∀ (j : Nat) (v : Value), (L.map (Value.int .u8))[j]? = some v → cs[j]? = some v := by
  obtain ⟨xs, m, rfl, hx, hl, hn, hel⟩ := DataW.trod_array hu h
  simp only [Prod.mk.injEq, DataW.agg.injEq] at hx
  rw [cells_acc] at hel
  intro j v hj
  have hjl : j < 2 * n := by
    have := (List.getElem?_eq_some_iff.1 hj).1
    simpa [hL] using this
  have hi : j / 2 < n := by omega
  have he := hel (j / 2) hi
  obtain ⟨x, hxe⟩ : ∃ x, xs[j / 2]? = some x := ⟨_, List.getElem?_eq_getElem (by omega)⟩
  rw [hxe] at he
  obtain ⟨y0, y1, n2, rfl, hl2, h0, h1⟩ := trod_struct2 Tryd.underlying39 he
  have hd := pairU_at (H := H) L (j / 2) (.agg [y0.1, y1.1]) (by rw [hx.1]; simp [hxe])
  obtain ⟨a, b, ha, hb, hab⟩ := hd
  simp only [DataW.agg.injEq, List.cons.injEq, and_true] at hab
  obtain ⟨k0, e0, f0, _⟩ := DataW.trod_int Tryd.underlying5 h0
  obtain ⟨k1, e1, f1, _⟩ := DataW.trod_int Tryd.underlying5 h1
  rw [f0, f1] at hab
  simp only [DataW.lit.injEq, Lit.int.injEq, true_and] at hab
  obtain ⟨rfl, rfl⟩ := hab
  have g0 : cs[2 * (j / 2)]? = some (.int .u8 k0) := by
    have := congrArg (fun l => l[0]?) e0
    rw [cells_u8] at this
    simpa [List.getElem?_take, List.getElem?_drop, Nat.mul_comm] using this
  have g1 : cs[2 * (j / 2) + 1]? = some (.int .u8 k1) := by
    have := congrArg (fun l => l[0]?) e1
    rw [cells_u8] at this
    simpa [List.getElem?_take, List.getElem?_drop, Nat.mul_comm] using this
  rcases Nat.mod_two_eq_zero_or_one j with h2 | h2
  · have ej : j = 2 * (j / 2) := by omega
    rw [ej] at hj ⊢
    rw [List.getElem?_map, ha] at hj
    rw [g0]; exact hj
  · have ej : j = 2 * (j / 2) + 1 := by omega
    rw [ej] at hj ⊢
    rw [List.getElem?_map, hb] at hj
    rw [g1]; exact hj
theorem u8_cells {H : Type} {enc : TypeId × Value → H} {W : World} {base fuel : Nat} {sp : Nat → Bool} {hd : Bool} {T : TypeId} {n : Nat} {cs : List Value} {L : List Int} {ps : List MemPlace} (hu : Tryd.prog.underlying T = some (.array n 5)) (hL : L.length = n)
    (h : DataW.trod enc Tryd.prog W base sp hd fuel T cs = some (.agg (L.map fun x => .lit (.int .u8 x)), ps)) : ∀ (j : Nat) (v : Value), (L.map (Value.int .u8))[j]? = some v → cs[j]? = some v := by
  obtain ⟨xs, m, rfl, hx, hl, hn, hel⟩ := DataW.trod_array hu h
  simp only [Prod.mk.injEq, DataW.agg.injEq] at hx
  rw [cells_u8] at hel
  intro j v hj
  have hjl : j < n := by
    have := (List.getElem?_eq_some_iff.1 hj).1
    simpa [hL] using this
  have he := hel j hjl
  obtain ⟨x, hxe⟩ : ∃ x, xs[j]? = some x := ⟨_, List.getElem?_eq_getElem (by omega)⟩
  rw [hxe] at he
  obtain ⟨s, e1, e2, _⟩ := DataW.trod_int Tryd.underlying5 he
  obtain ⟨z, hz⟩ : ∃ z, L[j]? = some z := ⟨_, List.getElem?_eq_getElem (by omega)⟩
  have h2 : (L.map fun s => (DataW.lit (.int .u8 s) : DataW H))[j]? = (xs.map (·.1))[j]? := by rw [hx.1]
  rw [List.getElem?_map, List.getElem?_map, hz, hxe] at h2
  have h2 := Option.some.inj h2
  rw [e2] at h2
  simp only [DataW.lit.injEq, Lit.int.injEq, true_and] at h2
  rw [List.getElem?_map, hz] at hj
  have hj := Option.some.inj hj
  rw [h2] at hj
  have := congrArg (fun l => l[0]?) e1
  simp at this
  rw [← hj]
  simpa [List.getElem?_take, List.getElem?_drop] using this
theorem gF : Tryd.prog.globalNamed "unicode/utf8.first" = some 0 := by kernel_rfl
theorem gA : Tryd.prog.globalNamed "unicode/utf8.acceptRanges" = some 1 := by kernel_rfl
theorem tF : (Tryd.prog.globals[0]?).map (·.type) = some 37 := by kernel_rfl
theorem tA : (Tryd.prog.globals[1]?).map (·.type) = some 40 := by kernel_rfl
abbrev laidV : List (String × DataW Unit) := [("unicode/utf8.acceptRanges", Rows.laid_unicode_utf8_acceptRanges), ("unicode/utf8.first", Rows.laid_unicode_utf8_first)]
theorem acc_data : (Rows.laid_unicode_utf8_acceptRanges : DataW Unit) = .agg (pairU accL) := by kernel_rfl
theorem first_data : (Rows.laid_unicode_utf8_first : DataW Unit) = .agg (firstL.map fun x => .lit (.int .u8 x)) := by kernel_rfl
theorem utfs_of_laid {W : World} (h : laidMetH Tryd.prog laidV W) : Utfs W := by
  rw [MakeChecks.laidMetH_plain _ _ _ (by kernel_rfl)] at h
  obtain ⟨ps, ⟨g0, t0, cs0, f0, p0, q0, hg0, ht0, hv0, hd0, ⟨g1, t1, cs1, f1, p1, q1, hg1, ht1, hv1, hd1, _, _⟩, _⟩, _, _⟩ := h
  obtain rfl := Option.some.inj (gA.symm.trans hg0)
  obtain rfl := Option.some.inj (gF.symm.trans hg1)
  obtain rfl := Option.some.inj (tA.symm.trans ht0)
  obtain rfl := Option.some.inj (tF.symm.trans ht1)
  rw [acc_data] at hd0
  rw [first_data] at hd1
  refine ⟨fun j v hj => ?_, fun j v hj => ?_⟩
  · have := u8_cells (L := firstL) Tryd.underlying37 first_len hd1 j v hj
    rw [Nat.zero_add, World.var?_cell hg1 hv1 j]; simpa using this
  · have := acc_cells (L := accL) Tryd.underlying40 (by decide) hd0 j v hj
    rw [Nat.zero_add, World.var?_cell hg0 hv0 j]; simpa using this
/-- A world that meets the condition. -/
theorem laid_met (os : Os) (args : Array Value) : laidMetH Tryd.prog laidV ((World.laidAll Tryd.prog os laidV).forCall (fun _ _ => 0) ⟨#[], args, []⟩).memory := by
  rw [MakeChecks.laidMetH_plain _ _ _ (by kernel_rfl)]; exact laidMet_laidAll _ (by kernel_rfl) (by kernel_rfl)
end Go.Proofs.YtgjlpkocieffeaaDoor
