/- The tables that report reads and the handle of the type error, out of the row's condition on the listed variables; and a world that meets it. A Fault that comes as an argument: four whole numbers of 64 bits. A text's length, by the row's own bound. -/
import Derived.Test.YtdphhmigbbgjmaaDoorRepX
import Derived.Test.YtdphhmigbbgjmaaDoorRows
import Derived.ProofKit
import Derived.LaidMore
import Derived.OpenShut
import Derived.ChangeSame
import Derived.Stop.Joined
import Derived.Lay
import Derived.LaidHandle
import Derived.Lib.LaidTab
import Derived.Lib.SmallJoins
import Derived.Deep.Strs
import Derived.ChangeMaps5
section
namespace Go.Proofs.YtdphhmigbbgjmaaDoor
open Go.ChangeShapes Go.WideShapes Go.ChangeAt Go.RowKit
def pairD {H : Type} : List Int → List (DataW H)
  | a :: b :: r => .agg [.lit (.int .i64 a), .lit (.int .i64 b)] :: pairD r
  | _ => []
theorem pairD_at {H : Type} : ∀ (L : List Int) (i : Nat) (x : DataW H), (pairD L)[i]? = some x → ∃ a b, L[2 * i]? = some a ∧ L[2 * i + 1]? = some b ∧ x = .agg [.lit (.int .i64 a), .lit (.int .i64 b)]
  | [], i, x, h => by simp [pairD] at h
  | [_], i, x, h => by simp [pairD] at h
  | a :: b :: r, 0, x, h => ⟨a, b, rfl, rfl, by simpa [pairD] using h.symm⟩
  | a :: b :: r, i + 1, x, h => by
    obtain ⟨c, d, h1, h2, h3⟩ := pairD_at r i x (by simpa [pairD] using h)
    exact ⟨c, d, by rw [show 2 * (i + 1) = 2 * i + 1 + 1 by omega]; simpa using h1, by rw [show 2 * (i + 1) + 1 = 2 * i + 1 + 1 + 1 by omega]; simpa using h2, h3⟩
theorem cells_int : Tryd.prog.cellsOf 3 = 1 := by kernel_rfl
theorem cells_points : Tryd.prog.cellsOf 192 = 2 := by kernel_rfl
set_option maxHeartbeats 1000000 in
theorem pair_cells {H : Type} {enc : TypeId × Value → H} {W : World} {base fuel : Nat} {sp : Nat → Bool} {hd : Bool} {T : TypeId} {n : Nat} {cs : List Value} {L : List Int} {ps : List MemPlace} (hu : Tryd.prog.underlying T = some (.array n 192)) (hL : L.length = 2 * n)
    (h : DataW.trod enc Tryd.prog W base sp hd fuel T cs = some (.agg (pairD L), ps)) : ∀ (j : Nat) (v : Value), (L.map (Value.int .i64))[j]? = some v → cs[j]? = some v := by
  obtain ⟨xs, m, rfl, hx, hl, hn, hel⟩ := DataW.trod_array hu h
  simp only [Prod.mk.injEq, DataW.agg.injEq] at hx
  rw [cells_points] at hel
  intro j v hj
  have hjl : j < 2 * n := by
    have := (List.getElem?_eq_some_iff.1 hj).1
    simpa [hL] using this
  have hi : j / 2 < n := by omega
  have he := hel (j / 2) hi
  obtain ⟨x, hxe⟩ : ∃ x, xs[j / 2]? = some x := ⟨_, List.getElem?_eq_getElem (by omega)⟩
  rw [hxe] at he
  obtain ⟨y0, y1, n2, rfl, hl2, h0, h1⟩ := trod_struct2 Tryd.underlying192 he
  have hd := pairD_at (H := H) L (j / 2) (.agg [y0.1, y1.1]) (by rw [hx.1]; simp [hxe])
  obtain ⟨a, b, ha, hb, hab⟩ := hd
  simp only [DataW.agg.injEq, List.cons.injEq, and_true] at hab
  obtain ⟨k0, e0, f0, _⟩ := DataW.trod_int Tryd.underlying3 h0
  obtain ⟨k1, e1, f1, _⟩ := DataW.trod_int Tryd.underlying3 h1
  rw [f0, f1] at hab
  simp only [DataW.lit.injEq, Lit.int.injEq, true_and] at hab
  obtain ⟨rfl, rfl⟩ := hab
  have g0 : cs[2 * (j / 2)]? = some (.int .i64 k0) := by
    have := congrArg (fun l => l[0]?) e0
    rw [cells_int] at this
    simpa [List.getElem?_take, List.getElem?_drop, Nat.mul_comm] using this
  have g1 : cs[2 * (j / 2) + 1]? = some (.int .i64 k1) := by
    have := congrArg (fun l => l[0]?) e1
    rw [cells_int] at this
    simpa [List.getElem?_take, List.getElem?_drop, Nat.mul_comm] using this
  rcases Nat.mod_two_eq_zero_or_one j with h2 | h2
  · have ej : j = 2 * (j / 2) := by omega
    rw [ej] at hj ⊢
    rw [List.getElem?_map, ha] at hj
    rw [g0]; exact hj
  · have ej : j = 2 * (j / 2) + 1 := by omega
    rw [ej] at hj ⊢
    rw [List.getElem?_map, hb] at hj
    rw [g1]; exact hj
theorem gD : Tryd.prog.globalNamed "colophon/width.double" = some 5 := by kernel_rfl
theorem gN : Tryd.prog.globalNamed "colophon/width.none" = some 6 := by kernel_rfl
theorem tD : (Tryd.prog.globals[5]?).map (·.type) = some 193 := by kernel_rfl
theorem tN : (Tryd.prog.globals[6]?).map (·.type) = some 194 := by kernel_rfl
theorem tPow : (Tryd.prog.globals[8]?).map (·.type) = some 214 := by kernel_rfl
theorem pow_data : (Rows.laid_internal_strconv_uint64pow10 : DataW Unit) = Lib.tabData .u64 Lib.pow10Tab := by kernel_rfl
theorem gEt : Tryd.prog.globalNamed "errors.errorType" = some 0 := by kernel_rfl
theorem tRt : (Tryd.prog.cutTypes.find? (·.1 == "internal/reflectlite.rtype")).map (·.2) = some 168 := by kernel_rfl
theorem tRows : ((List.range 246).filter fun t => Tryd.prog.rowNamed t [101, 114, 114, 111, 114]) = [57] := by kernel_rfl
theorem tSize : Tryd.prog.types.size = 246 := by kernel_rfl
abbrev laidV : List (String × DataW Unit) := [("colophon/width.double", Rows.laid_colophon_width_double), ("colophon/width.none", Rows.laid_colophon_width_none), ("math/bits.deBruijn32tab", Rows.laid_math_bits_deBruijn32tab), ("math/bits.deBruijn64tab", Rows.laid_math_bits_deBruijn64tab), ("internal/strconv.uint64pow10", Rows.laid_internal_strconv_uint64pow10), ("errors.errorType", Rows.laid_errors_errorType)]
abbrev laidP : List (String × DataW Unit) := [("colophon/width.double", Rows.laid_colophon_width_double), ("colophon/width.none", Rows.laid_colophon_width_none), ("math/bits.deBruijn32tab", Rows.laid_math_bits_deBruijn32tab), ("math/bits.deBruijn64tab", Rows.laid_math_bits_deBruijn64tab), ("internal/strconv.uint64pow10", Rows.laid_internal_strconv_uint64pow10)]
theorem errT_of_handles {W : World} (h : handlesMet Tryd.prog [("errors.errorType", Rows.laid_errors_errorType)] W) : ErrT W := by
  obtain ⟨name, u, ty, e1, e2, e3, e4, e5⟩ := h _ (List.mem_singleton.2 rfl)
  have en : name = [101, 114, 114, 111, 114] := (Option.some.inj e1).symm
  subst en
  obtain rfl := Option.some.inj (tRt.symm.trans e2)
  have hm : ty ∈ (List.range 246).filter fun t => Tryd.prog.rowNamed t [101, 114, 114, 111, 114] := List.mem_filter.2 ⟨List.mem_range.2 (by rw [← tSize]; exact e3), e4⟩
  rw [tRows] at hm
  obtain rfl := List.mem_singleton.1 hm
  have hh : typeHandle Tryd.prog 57 = hnd 57 := by kernel_rfl
  rw [hh] at e5
  unfold ErrT
  simpa using World.var?_cell gEt e5 0
theorem rep_of_laid {W : World} (h : laidMetH Tryd.prog laidV W) : RepW W := by
  have h' : laidMet Tryd.prog laidP W ∧ handlesMet Tryd.prog [("errors.errorType", Rows.laid_errors_errorType)] W := h
  refine ⟨?_, ?_, errT_of_handles h'.2⟩
  · obtain ⟨ps, ⟨g0, t0, cs0, f0, p0, q0, hg0, ht0, hv0, hd0, ⟨g1, t1, cs1, f1, p1, q1, hg1, ht1, hv1, hd1, _, _⟩, _⟩, _, _⟩ := h'.1
    obtain rfl := Option.some.inj (gD.symm.trans hg0)
    obtain rfl := Option.some.inj (gN.symm.trans hg1)
    obtain rfl := Option.some.inj (tD.symm.trans ht0)
    obtain rfl := Option.some.inj (tN.symm.trans ht1)
    refine ⟨fun j v hj => ?_, fun j v hj => ?_⟩
    · have := pair_cells (L := dblL) Tryd.underlying193 (by decide) hd0 j v hj
      rw [Nat.zero_add, World.var?_cell hg0 hv0 j]; simpa using this
    · have := pair_cells (L := nonL) Tryd.underlying194 (by decide) hd1 j v hj
      rw [Nat.zero_add, World.var?_cell hg1 hv1 j]; simpa using this
  · obtain ⟨ps, ⟨_, _, _, _, _, _, _, _, _, _, ⟨_, _, _, _, _, _, _, _, _, _, ⟨_, _, _, _, _, _, _, _, _, _, ⟨_, _, _, _, _, _, _, _, _, _, ⟨g0, t0, cs0, f0, p0, q0, hg0, ht0, hv0, hd0, _, _⟩, _⟩, _⟩, _⟩, _⟩, _, _⟩ := h'.1
    obtain rfl := Option.some.inj (gPow.symm.trans hg0)
    obtain rfl := Option.some.inj (tPow.symm.trans ht0)
    rw [pow_data] at hd0
    unfold Lib.TabIs
    rw [hv0, ← Lib.cells_of_tab Tryd.underlying214 Tryd.underlying188 (by kernel_rfl) (by kernel_rfl) hd0]
/-- The program's own beginning, the handle laid. -/
noncomputable def hndW (os : Os) : World :=
  let w0 := World.holding Tryd.prog os ⟨#[], #[], []⟩
  { w0 with heap := w0.heap.modify 0 fun
      | .cells _ t frozen => .cells #[.iface 168 (.agg #[hnd 57])] t frozen
      | o => o }
/-- A world that meets the condition. -/
noncomputable def laidW (os : Os) : World := (hndW os).layVars Tryd.prog laidP
theorem laidW_os (os : Os) : (laidW os).os = os := (World.layVars_os _ _ _).trans rfl
theorem laidW_met (os : Os) : laidMet Tryd.prog laidP (laidW os) := by
  have e1 : (laidP.filter fun x => (laidP.map (·.1)).contains x.1) = laidP := List.filter_eq_self.2 fun x hx => List.contains_iff_mem.2 (List.mem_map.2 ⟨x, hx, rfl⟩)
  have e2 : (laidP.filter fun x => !(laidP.map (·.1)).contains x.1) = [] := List.filter_eq_nil_iff.2 fun x hx => by rw [List.contains_iff_mem.2 (List.mem_map.2 ⟨x, hx, rfl⟩)]; simp
  exact laidMet_layVars (w0 := hndW os) (laidP.map (·.1)) [] (by rw [e1]; rfl) (by rw [e1]; kernel_rfl) (by rw [e1]; kernel_rfl) (by rw [e2]; exact LaidIn.none)
theorem laid_met (os : Os) (args : Array Value) : laidMetH Tryd.prog laidV ((laidW os).forCall (fun _ _ => 0) ⟨#[], args, []⟩).memory :=
  laidMetH_of_parts (((laidW_met os).of_heap (by simp [World.memory, World.forCall, Input.heap])) : laidMet Tryd.prog laidP _) (by kernel_rfl)
end Go.Proofs.YtdphhmigbbgjmaaDoor
end
section
namespace Go.Proofs.YtdphhmigbbgjmaaDoor
open Go.ChangeShapes Go.WideShapes Go.ChangeAt Go.RowKit Go.Lib
theorem cells_fault : Tryd.prog.cellsOf 52 = 4 := by kernel_rfl
theorem cells_place : Tryd.prog.cellsOf 26 = 3 := by kernel_rfl
theorem cells_errno : Tryd.prog.cellsOf 24 = 1 := by kernel_rfl
theorem cells_int' : Tryd.prog.cellsOf 3 = 1 := by kernel_rfl
theorem wf_inI (n : Int) (h : (Lit.int .i64 n).wf = true) : inI n := by
  have hm : IntKind.i64.min = -9223372036854775808 := by decide
  have hM : IntKind.i64.max = 9223372036854775807 := by decide
  simp [Lit.wf, hm, hM] at h
  unfold inI
  omega
set_option maxRecDepth 100000 in
theorem open_fault {H : Type} {enc : TypeId × Value → H} {W : World} {base b0 : Nat} {r : Reach} {sp : Nat → Bool} {v : Value} {d : DataW H} {ps : List MemPlace} (hval : Value.okWide Tryd.prog W r b0 52 v) (h : DataW.Trod enc Tryd.prog W base sp true 52 v d ps) :
    ∃ c a l col : Int, v = .agg #[.int .i64 c, .int .i64 a, .int .i64 l, .int .i64 col] ∧ inI c ∧ inI a ∧ inI l ∧ inI col := by
  obtain ⟨cs, rfl, hsz⟩ := okWide_struct Tryd.underlying52 hval
  obtain ⟨fuel, hf⟩ := h
  obtain ⟨y0, y1, n, hx, hl, h0, h1⟩ := trod_struct2 Tryd.underlying52 hf
  obtain ⟨z0, z1, z2, m, hz, hl2, g0, g1, g2⟩ := Go.Deep.trod_struct3 Tryd.underlying26 h1
  obtain ⟨c, e0, _, w0⟩ := DataW.trod_int Tryd.underlying24 h0
  obtain ⟨a, e1, _, w1⟩ := DataW.trod_int Tryd.underlying3 g0
  obtain ⟨l, e2, _, w2⟩ := DataW.trod_int Tryd.underlying3 g1
  obtain ⟨k, e3, _, w3⟩ := DataW.trod_int Tryd.underlying3 g2
  rw [cells_errno] at e0
  rw [cells_int', cells_place] at e1 e2 e3
  have hcs : cs.size = 4 := hsz.trans cells_fault
  obtain ⟨l4, rfl⟩ : ∃ l4 : List Value, cs = l4.toArray := ⟨cs.toList, by simp⟩
  match l4, hcs with
  | [v0, v1, v2, v3], _ =>
    simp [Value.cells] at e0 e1 e2 e3
    subst e0 e1 e2 e3
    exact ⟨c, a, l, k, rfl, wf_inI _ w0, wf_inI _ w1, wf_inI _ w2, wf_inI _ w3⟩
end Go.Proofs.YtdphhmigbbgjmaaDoor
end
