/- The tables of package doc and strconv, out of the row's condition on the listed variables; and a world that meets it. -/
import Derived.Test.YtbdilejhbeffjaaDoorDocW
import Derived.Test.YtbdilejhbeffjaaDoorRows
import Derived.ProofKit
import Derived.LaidMore
import Derived.OpenShut
import Derived.ChangeSame
import Derived.Stop.Joined
import Derived.Lay
import Derived.Lib.LaidTab
namespace Go.Proofs.YtbdilejhbeffjaaDoor
open Go.ChangeShapes Go.WideShapes Go.ChangeAt Go.RowKit
theorem trod_errIface {H : Type} {enc : TypeId × Value → H} {W : World} {base fuel : Nat} {sp : Nat → Bool} {hd : Bool} {ms : Array (String × TypeId)} {T : TypeId} {cs : List Value} {nm : String} {d : DataW H} {ps : List MemPlace} (hu : Tryd.prog.underlying T = some (.interface ms))
    (h : DataW.trod enc Tryd.prog W base sp hd fuel T cs = some (.iface nm d, ps)) : ∃ u v, cs = [.iface u v] := by
  cases fuel with
  | zero => simp [DataW.trod] at h
  | succ n =>
    unfold DataW.trod at h
    rw [hu] at h
    split at h <;> simp_all
theorem str_cells {H : Type} {enc : TypeId × Value → H} {W : World} {base fuel : Nat} {sp : Nat → Bool} {hd : Bool} {T : TypeId} {n : Nat} {cs : List Value} {L : List ByteArray} {ps : List MemPlace} (hu : Tryd.prog.underlying T = some (.array n 9)) (hL : L.length = n)
    (h : DataW.trod enc Tryd.prog W base sp hd fuel T cs = some (.agg (L.map fun s => .lit (.string s.data.toList)), ps)) : ∀ (j : Nat) (v : Value), (L.map Value.string)[j]? = some v → cs[j]? = some v := by
  obtain ⟨xs, m, rfl, hx, hl, hn, hel⟩ := DataW.trod_array hu h
  simp only [Prod.mk.injEq, DataW.agg.injEq] at hx
  rw [show Tryd.prog.cellsOf 9 = 1 by kernel_rfl] at hel
  intro j v hj
  have hjl : j < n := by
    have := (List.getElem?_eq_some_iff.1 hj).1
    simpa [hL] using this
  have he := hel j hjl
  obtain ⟨x, hxe⟩ : ∃ x, xs[j]? = some x := ⟨_, List.getElem?_eq_getElem (by omega)⟩
  rw [hxe] at he
  obtain ⟨s, e1, e2, _⟩ := DataW.trod_string Tryd.underlying9 he
  obtain ⟨z, hz⟩ : ∃ z, L[j]? = some z := ⟨_, List.getElem?_eq_getElem (by omega)⟩
  have h2 : (L.map fun s => (DataW.lit (.string s.data.toList) : DataW H))[j]? = (xs.map (·.1))[j]? := by rw [hx.1]
  rw [List.getElem?_map, List.getElem?_map, hz, hxe] at h2
  have h2 := Option.some.inj h2
  rw [e2] at h2
  simp only [DataW.lit.injEq, Lit.string.injEq] at h2
  have hzs : z = s := by
    cases z; cases s; simp at h2; rw [h2]
  rw [List.getElem?_map, hz] at hj
  have hj := Option.some.inj hj
  rw [hzs] at hj
  have := congrArg (fun l => l[0]?) e1
  simp at this
  rw [← hj]
  simpa [List.getElem?_take, List.getElem?_drop] using this
theorem gWd : Tryd.prog.globalNamed "colophon/doc.words" = some 0 := by kernel_rfl
theorem gEs : Tryd.prog.globalNamed "strconv.ErrSyntax" = some 4 := by kernel_rfl
theorem gEr : Tryd.prog.globalNamed "strconv.ErrRange" = some 5 := by kernel_rfl
theorem tWd : (Tryd.prog.globals[0]?).map (·.type) = some 112 := by kernel_rfl
theorem tEs : (Tryd.prog.globals[4]?).map (·.type) = some 109 := by kernel_rfl
theorem tEr : (Tryd.prog.globals[5]?).map (·.type) = some 109 := by kernel_rfl
theorem tPow : (Tryd.prog.globals[6]?).map (·.type) = some 171 := by kernel_rfl
abbrev laidV : List (String × DataW Unit) := [("math/bits.deBruijn32tab", Rows.laid_math_bits_deBruijn32tab), ("math/bits.deBruijn64tab", Rows.laid_math_bits_deBruijn64tab), ("internal/strconv.uint64pow10", Rows.laid_internal_strconv_uint64pow10), ("strconv.ErrRange", Rows.laid_strconv_ErrRange), ("strconv.ErrSyntax", Rows.laid_strconv_ErrSyntax), ("colophon/doc.words", Rows.laid_colophon_doc_words)]
theorem pow_data : (Rows.laid_internal_strconv_uint64pow10 : DataW Unit) = Lib.tabData .u64 Lib.pow10Tab := by kernel_rfl
theorem words_data : (Rows.laid_colophon_doc_words : DataW Unit) = .agg (wordsL.map fun s => .lit (.string s.data.toList)) := by kernel_rfl
theorem wrds_of_laid {W : World} (h : laidMetH Tryd.prog laidV W) : Wrds W := by
  rw [MakeChecks.laidMetH_plain _ _ _ (by kernel_rfl)] at h
  obtain ⟨ps, ⟨_, _, _, _, _, _, _, _, _, _, ⟨_, _, _, _, _, _, _, _, _, _, ⟨g0, t0, cs0, f0, p0, q0, hg0, ht0, hv0, hd0, ⟨g1, t1, cs1, f1, p1, q1, hg1, ht1, hv1, hd1, ⟨g2, t2, cs2, f2, p2, q2, hg2, ht2, hv2, hd2, ⟨g3, t3, cs3, f3, p3, q3, hg3, ht3, hv3, hd3, _, _⟩, _⟩, _⟩, _⟩, _⟩, _⟩, _, _⟩ := h
  obtain rfl := Option.some.inj (gPow.symm.trans hg0)
  obtain rfl := Option.some.inj (gEr.symm.trans hg1)
  obtain rfl := Option.some.inj (gEs.symm.trans hg2)
  obtain rfl := Option.some.inj (gWd.symm.trans hg3)
  obtain rfl := Option.some.inj (tPow.symm.trans ht0)
  obtain rfl := Option.some.inj (tEr.symm.trans ht1)
  obtain rfl := Option.some.inj (tEs.symm.trans ht2)
  obtain rfl := Option.some.inj (tWd.symm.trans ht3)
  rw [pow_data] at hd0
  rw [words_data] at hd3
  refine ⟨fun j v hj => ?_, ?_, ?_, ?_⟩
  · have := str_cells (L := wordsL) Tryd.underlying112 (by decide) hd3 j v hj
    rw [Nat.zero_add, World.var?_cell hg3 hv3 j]; simpa using this
  · unfold Lib.TabIs
    rw [hv0, ← Lib.cells_of_tab Tryd.underlying171 Tryd.underlying155 (by kernel_rfl) (by kernel_rfl) hd0]
  · obtain ⟨u, v, e⟩ := trod_errIface Tryd.underlying109 hd2
    exact ⟨u, v, by rw [World.var?_cell hg2 hv2 0, ← Array.getElem?_toList, e]; rfl⟩
  · obtain ⟨u, v, e⟩ := trod_errIface Tryd.underlying109 hd1
    exact ⟨u, v, by rw [World.var?_cell hg1 hv1 0, ← Array.getElem?_toList, e]; rfl⟩
/-- A world that meets the condition. -/
theorem laid_met (os : Os) (args : Array Value) : laidMetH Tryd.prog laidV ((World.laidAll Tryd.prog os laidV).forCall (fun _ _ => 0) ⟨#[], args, []⟩).memory := by
  rw [MakeChecks.laidMetH_plain _ _ _ (by kernel_rfl)]; exact laidMet_laidAll _ (by kernel_rfl) (by kernel_rfl)
end Go.Proofs.YtbdilejhbeffjaaDoor
