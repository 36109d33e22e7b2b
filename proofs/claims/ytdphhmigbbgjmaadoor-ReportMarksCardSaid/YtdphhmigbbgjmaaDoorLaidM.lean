/- The tables that the third law of report reads, out of the row's condition on the listed variables; and a world that meets it. -/
import Derived.Test.YtdphhmigbbgjmaaDoorR7
import Derived.Test.YtdphhmigbbgjmaaDoorMarkL
import Derived.Lib.LaidU8T
namespace Go.Proofs.YtdphhmigbbgjmaaDoor
open Go.ChangeShapes Go.WideShapes Go.ChangeAt Go.RowKit
abbrev laidVM : List (String × DataW Unit) := [("colophon/width.double", Rows.laid_colophon_width_double), ("colophon/width.none", Rows.laid_colophon_width_none), ("math/bits.deBruijn32tab", Rows.laid_math_bits_deBruijn32tab), ("math/bits.deBruijn64tab", Rows.laid_math_bits_deBruijn64tab), ("internal/strconv.uint64pow10", Rows.laid_internal_strconv_uint64pow10), ("unicode/utf8.acceptRanges", Rows.laid_unicode_utf8_acceptRanges), ("errors.errorType", Rows.laid_errors_errorType), ("unicode/utf8.first", Rows.laid_unicode_utf8_first)]
abbrev laidPM : List (String × DataW Unit) := [("colophon/width.double", Rows.laid_colophon_width_double), ("colophon/width.none", Rows.laid_colophon_width_none), ("math/bits.deBruijn32tab", Rows.laid_math_bits_deBruijn32tab), ("math/bits.deBruijn64tab", Rows.laid_math_bits_deBruijn64tab), ("internal/strconv.uint64pow10", Rows.laid_internal_strconv_uint64pow10), ("unicode/utf8.acceptRanges", Rows.laid_unicode_utf8_acceptRanges), ("unicode/utf8.first", Rows.laid_unicode_utf8_first)]
theorem u8_first : (Rows.laid_unicode_utf8_first : DataW Unit) = Lib.firstData := by kernel_rfl
theorem u8_acc : (Rows.laid_unicode_utf8_acceptRanges : DataW Unit) = Lib.acceptData := by kernel_rfl
theorem mark_of_laid {W : World} (h : laidMetH Tryd.prog laidVM W) : MarkW W := by
  have h' : laidMet Tryd.prog laidPM W ∧ handlesMet Tryd.prog [("errors.errorType", Rows.laid_errors_errorType)] W := h
  refine ⟨⟨?_, ?_, errT_of_handles h'.2⟩, ?_⟩
  · obtain ⟨ps, ⟨g0, t0, cs0, f0, p0, q0, hg0, ht0, hv0, hd0, ⟨g1, t1, cs1, f1, p1, q1, hg1, ht1, hv1, hd1, _, _⟩, _⟩, _, _⟩ := h'.1
    obtain rfl := Option.some.inj (gD.symm.trans hg0)
    obtain rfl := Option.some.inj (gN.symm.trans hg1)
    obtain rfl := Option.some.inj (tD.symm.trans ht0)
    obtain rfl := Option.some.inj (tN.symm.trans ht1)
    refine ⟨fun j v hj => ?_, fun j v hj => ?_⟩
    · have := pair_cells (L := dblL) Tryd.underlying193 (by decide) hd0 j v hj
      rw [Nat.zero_add, World.var?_cell hg0 hv0 j]; simpa using this
    · have := pair_cells (L := nonL) Tryd.underlying194 (by decide) hd1 j v hj
      rw [Nat.zero_add, World.var?_cell hg1 hv1 j]; simpa using this
  · obtain ⟨ps, ⟨_, _, _, _, _, _, _, _, _, _, ⟨_, _, _, _, _, _, _, _, _, _, ⟨_, _, _, _, _, _, _, _, _, _, ⟨_, _, _, _, _, _, _, _, _, _, ⟨g0, t0, cs0, f0, p0, q0, hg0, ht0, hv0, hd0, _, _⟩, _⟩, _⟩, _⟩, _⟩, _, _⟩ := h'.1
    obtain rfl := Option.some.inj (gPow.symm.trans hg0)
    obtain rfl := Option.some.inj (tPow.symm.trans ht0)
    rw [pow_data] at hd0
    unfold Lib.TabIs
    rw [hv0, ← Lib.cells_of_tab Tryd.underlying214 Tryd.underlying188 (by kernel_rfl) (by kernel_rfl) hd0]
  · have h4 : Lib.VarReads Tryd.prog W "unicode/utf8.acceptRanges" Lib.acceptData := by
      have := Lib.laidMet.reads h'.1 (n := "unicode/utf8.acceptRanges") (d := Rows.laid_unicode_utf8_acceptRanges) (by simp)
      rwa [u8_acc] at this
    have h3 : Lib.VarReads Tryd.prog W "unicode/utf8.first" Lib.firstData := by
      have := Lib.laidMet.reads h'.1 (n := "unicode/utf8.first") (d := Rows.laid_unicode_utf8_first) (by simp)
      rwa [u8_first] at this
    exact utf8Tabs_of_readsT (U8Types.of196 Tryd.lays196) ⟨by kernel_rfl, by kernel_rfl, by kernel_rfl, by kernel_rfl, by kernel_rfl, by kernel_rfl, by kernel_rfl⟩ h3 h4
noncomputable def laidWM (os : Os) : World := (hndW os).layVars Tryd.prog laidPM
theorem laidWM_os (os : Os) : (laidWM os).os = os := (World.layVars_os _ _ _).trans rfl
theorem laidWM_met (os : Os) : laidMet Tryd.prog laidPM (laidWM os) := by
  have e1 : (laidPM.filter fun x => (laidPM.map (·.1)).contains x.1) = laidPM := List.filter_eq_self.2 fun x hx => List.contains_iff_mem.2 (List.mem_map.2 ⟨x, hx, rfl⟩)
  have e2 : (laidPM.filter fun x => !(laidPM.map (·.1)).contains x.1) = [] := List.filter_eq_nil_iff.2 fun x hx => by rw [List.contains_iff_mem.2 (List.mem_map.2 ⟨x, hx, rfl⟩)]; simp
  exact laidMet_layVars (w0 := hndW os) (laidPM.map (·.1)) [] (by rw [e1]; rfl) (by rw [e1]; kernel_rfl) (by rw [e1]; kernel_rfl) (by rw [e2]; exact LaidIn.none)
theorem laid_metM (os : Os) (args : Array Value) : laidMetH Tryd.prog laidVM ((laidWM os).forCall (fun _ _ => 0) ⟨#[], args, []⟩).memory :=
  laidMetH_of_parts (((laidWM_met os).of_heap (by simp [World.memory, World.forCall, Input.heap])) : laidMet Tryd.prog laidPM _) (by kernel_rfl)
end Go.Proofs.YtdphhmigbbgjmaaDoor
