/- A Fault that comes as an argument: four whole numbers of 64 bits. A text's length, by the row's own bound. -/
import Derived.Test.YtdphhmigbbgjmaaDoorLaidR
import Derived.Lib.SmallJoins
import Derived.Deep.Strs
import Derived.ChangeMaps5
namespace Go.Proofs.YtdphhmigbbgjmaaDoor
open Go.ChangeShapes Go.WideShapes Go.ChangeAt Go.RowKit Go.Lib
theorem cells_fault : Tryd.prog.cellsOf 52 = 4 := by kernel_rfl
theorem cells_place : Tryd.prog.cellsOf 26 = 3 := by kernel_rfl
theorem cells_errno : Tryd.prog.cellsOf 24 = 1 := by kernel_rfl
theorem cells_int' : Tryd.prog.cellsOf 3 = 1 := by kernel_rfl
theorem wf_inI (n : Int) (h : (Lit.int .i64 n).wf = true) : inI n := by
  have hm : IntKind.i64.min = -9223372036854775808 := by decide
  have hM : IntKind.i64.max = 9223372036854775807 := by decide
  simp [Lit.wf, hm, hM] at h
  unfold inI
  omega
set_option maxRecDepth 100000 in
theorem open_fault {H : Type} {enc : TypeId × Value → H} {W : World} {base b0 : Nat} {r : Reach} {sp : Nat → Bool} {v : Value} {d : DataW H} {ps : List MemPlace} (hval : Value.okWide Tryd.prog W r b0 52 v) (h : DataW.Trod enc Tryd.prog W base sp true 52 v d ps) :
    ∃ c a l col : Int, v = .agg #[.int .i64 c, .int .i64 a, .int .i64 l, .int .i64 col] ∧ inI c ∧ inI a ∧ inI l ∧ inI col := by
  obtain ⟨cs, rfl, hsz⟩ := okWide_struct Tryd.underlying52 hval
  obtain ⟨fuel, hf⟩ := h
  obtain ⟨y0, y1, n, hx, hl, h0, h1⟩ := trod_struct2 Tryd.underlying52 hf
  obtain ⟨z0, z1, z2, m, hz, hl2, g0, g1, g2⟩ := Go.Deep.trod_struct3 Tryd.underlying26 h1
  obtain ⟨c, e0, _, w0⟩ := DataW.trod_int Tryd.underlying24 h0
  obtain ⟨a, e1, _, w1⟩ := DataW.trod_int Tryd.underlying3 g0
  obtain ⟨l, e2, _, w2⟩ := DataW.trod_int Tryd.underlying3 g1
  obtain ⟨k, e3, _, w3⟩ := DataW.trod_int Tryd.underlying3 g2
  rw [cells_errno] at e0
  rw [cells_int', cells_place] at e1 e2 e3
  have hcs : cs.size = 4 := hsz.trans cells_fault
  obtain ⟨l4, rfl⟩ : ∃ l4 : List Value, cs = l4.toArray := ⟨cs.toList, by simp⟩
  match l4, hcs with
  | [v0, v1, v2, v3], _ =>
    simp [Value.cells] at e0 e1 e2 e3
    subst e0 e1 e2 e3
    exact ⟨c, a, l, k, rfl, wf_inI _ w0, wf_inI _ w1, wf_inI _ w2, wf_inI _ w3⟩
end Go.Proofs.YtdphhmigbbgjmaaDoor
