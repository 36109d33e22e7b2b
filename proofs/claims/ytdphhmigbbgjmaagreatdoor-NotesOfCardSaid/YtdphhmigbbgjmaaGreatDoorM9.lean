/- What was read ahead of a call reads so behind it; texts and numbers among the arguments. From a walk that keeps all that lay in memory to the row's post (the guide's lemma for copying, turned to these claims). No program; no condition. The tables of package class and the handle of the type error, out of the row's condition on the listed variables; and a world that meets it. -/
import Derived.Test.YtdphhmigbbgjmaaGreatDoorRows
import Derived.ProofKit
import Derived.OpenShut
import Derived.ShutString
import Derived.WideKeyArgs
import Derived.Carry
import Derived.ChangeOld
import Derived.Lib.SmallJoins
import Derived.Below
import Derived.Test.YtdphhmigbbgjmaaGreatDoorM2
import Derived.Test.YtdphhmigbbgjmaaGreatDoorN3
import Derived.LaidMore
import Derived.ChangeSame
import Derived.Stop.Joined
import Derived.Lay
import Derived.LaidHandle
section
namespace Go.Proofs.YtdphhmigbbgjmaaGreatDoor
open Go.ChangeShapes Go.WideShapes Go.ChangeAt Go.RowKit
theorem laidOut : laidOutB Tryz.prog = true := by kernel_rfl
/-- What was read ahead of the call reads so behind it. -/
theorem trod_after {H : Type} {enc : TypeId × Value → H} {t : TypeId} (hr : Tryz.prog.readableRec t = true) (hrow : t < Tryz.prog.types.size) {W W' : World} {v : Value} {d : DataW H} {ps : List MemPlace}
    (h : DataW.Trod enc Tryz.prog W 0 (fun _ => true) true t v d ps) (hb : Below W.heap.size W W') (hlt : ∀ x ∈ ps, x.block < W.heap.size) (sp : Nat → Bool) (hs : ∀ x ∈ ps, sp x.block = true) : DataW.Trod enc Tryz.prog W' 0 sp true t v d ps :=
  WideElems.Trod_stays laidOut hr hrow h (fun x hx => hb.same (hlt x hx)) hs
end Go.Proofs.YtdphhmigbbgjmaaGreatDoor
end
section
namespace Go.Proofs.YtdphhmigbbgjmaaGreatDoor
open Go.ChangeShapes Go.WideShapes Go.ChangeAt Go.RowKit Go.Joins
section
variable {H : Type} {enc : TypeId × Value → H} {P : Program}
theorem post_below {f : Func} {s : ChangeSpec} {apart fresh handsOn again : Bool} {W W' : World} {args : Array Value} {v : Value} {ds gs : List (DataW H)} {before pa pv : List MemPlace}
    (hW : DataW.Whole enc P f.params.toList s.vars apart W args.toList ds gs before) (hb : Below W.heap.size W W') (hps : before = pa ++ pv)
    (hres : ∀ (b : Nat) (sp : Nat → Bool) (hd : Bool), DataW.TrodAll enc P W' b sp hd f.resultTypes.toList (v.resultList f.resultTypes.size) (s.fn H (ds ++ gs)).results [])
    (hargs : ∀ sp : Nat → Bool, (∀ p ∈ before, sp p.block = true) → DataW.TrodAll enc P W' 0 sp true f.params.toList args.toList (s.fn H (ds ++ gs)).args pa)
    (hvars : ∀ sp : Nat → Bool, (∀ p ∈ before, sp p.block = true) → DataW.TrodVars enc P W' sp s.vars (s.fn H (ds ++ gs)).vars pv)
    (hok : ∀ (j : Nat) (t : TypeId) (r : Value), f.resultTypes[j]? = some t → (v.resultList f.resultTypes.size)[j]? = some r → Value.okWide P W' .any 0 t r) :
    s.post enc P f apart fresh handsOn again W args v W' := by
  have hlt : ∀ p ∈ before, p.block < W.heap.size := fun p hp => hW.lt p hp
  have hold : ∀ p ∈ before, (fun b => decide (b < W.heap.size)) p.block = true := fun p hp => by simpa using hlt p hp
  refine ⟨ds, gs, before, [], pa, pv, hW, hres _ _ _, hargs _ hold, hvars _ hold, World.keptBut_mono (fun p hp => ⟨hp, ?_⟩) (hb.frame (· ∈ before)), fun _ => ?_⟩
  · rw [hps, List.mem_append] at hp; exact .inr hp
  · obtain ⟨_, _, _, _, _, hz, hn⟩ := hW
    refine ⟨hok, _, _, ([] ++ pa) ++ pv, ⟨[] ++ pa, pv, trodAll_append (hargs _ (fun _ _ => rfl)) (hres _ _ _), hvars _ (fun _ _ => rfl), rfl, fun b off hp => ?_, fun ha => ?_⟩, fun p hp _ => ?_⟩
    · have hin : MemPlace.cell b off ∈ before := by rw [hps]; simpa using hp
      rw [hb.frozen (hlt _ hin)]; exact hz b off hin
    · have := hn ha; rw [hps] at this; simpa using this
    · rw [hps]; simpa using hp
end
end Go.Proofs.YtdphhmigbbgjmaaGreatDoor
end
section
namespace Go.Proofs.YtdphhmigbbgjmaaGreatDoor
open Go.ChangeShapes Go.WideShapes Go.ChangeAt Go.RowKit
def pairD {H : Type} : List Int → List (DataW H)
  | a :: b :: r => .agg [.lit (.int .i64 a), .lit (.int .i64 b)] :: pairD r
  | _ => []
theorem pairD_at {H : Type} : ∀ (L : List Int) (i : Nat) (x : DataW H), (pairD L)[i]? = some x → ∃ a b, L[2 * i]? = some a ∧ L[2 * i + 1]? = some b ∧ x = .agg [.lit (.int .i64 a), .lit (.int .i64 b)]
  | [], i, x, h => by simp [pairD] at h
  | [_], i, x, h => by simp [pairD] at h
  | a :: b :: r, 0, x, h => ⟨a, b, rfl, rfl, by simpa [pairD] using h.symm⟩
  | a :: b :: r, i + 1, x, h => by
    obtain ⟨c, d, h1, h2, h3⟩ := pairD_at r i x (by simpa [pairD] using h)
    exact ⟨c, d, by rw [show 2 * (i + 1) = 2 * i + 1 + 1 by omega]; simpa using h1, by rw [show 2 * (i + 1) + 1 = 2 * i + 1 + 1 + 1 by omega]; simpa using h2, h3⟩
theorem cells_int : Tryz.prog.cellsOf 3 = 1 := by kernel_rfl
theorem cells_points : Tryz.prog.cellsOf 145 = 2 := by kernel_rfl
set_option maxHeartbeats 1000000 in
theorem pair_cells {H : Type} {enc : TypeId × Value → H} {W : World} {base fuel : Nat} {sp : Nat → Bool} {hd : Bool} {T : TypeId} {n : Nat} {cs : List Value} {L : List Int} {ps : List MemPlace} (hu : Tryz.prog.underlying T = some (.array n 145)) (hL : L.length = 2 * n)
    (h : DataW.trod enc Tryz.prog W base sp hd fuel T cs = some (.agg (pairD L), ps)) : ∀ (j : Nat) (v : Value), (L.map (Value.int .i64))[j]? = some v → cs[j]? = some v := by
  obtain ⟨xs, m, rfl, hx, hl, hn, hel⟩ := DataW.trod_array hu h
  simp only [Prod.mk.injEq, DataW.agg.injEq] at hx
  rw [cells_points] at hel
  intro j v hj
  have hjl : j < 2 * n := by
    have := (List.getElem?_eq_some_iff.1 hj).1
    simpa [hL] using this
  have hi : j / 2 < n := by omega
  have he := hel (j / 2) hi
  obtain ⟨x, hxe⟩ : ∃ x, xs[j / 2]? = some x := ⟨_, List.getElem?_eq_getElem (by omega)⟩
  rw [hxe] at he
  obtain ⟨y0, y1, n2, rfl, hl2, h0, h1⟩ := trod_struct2 Tryz.underlying145 he
  have hd := pairD_at (H := H) L (j / 2) (.agg [y0.1, y1.1]) (by rw [hx.1]; simp [hxe])
  obtain ⟨a, b, ha, hb, hab⟩ := hd
  simp only [DataW.agg.injEq, List.cons.injEq, and_true] at hab
  obtain ⟨k0, e0, f0, _⟩ := DataW.trod_int Tryz.underlying3 h0
  obtain ⟨k1, e1, f1, _⟩ := DataW.trod_int Tryz.underlying3 h1
  rw [f0, f1] at hab
  simp only [DataW.lit.injEq, Lit.int.injEq, true_and] at hab
  obtain ⟨rfl, rfl⟩ := hab
  have g0 : cs[2 * (j / 2)]? = some (.int .i64 k0) := by
    have := congrArg (fun l => l[0]?) e0
    rw [cells_int] at this
    simpa [List.getElem?_take, List.getElem?_drop, Nat.mul_comm] using this
  have g1 : cs[2 * (j / 2) + 1]? = some (.int .i64 k1) := by
    have := congrArg (fun l => l[0]?) e1
    rw [cells_int] at this
    simpa [List.getElem?_take, List.getElem?_drop, Nat.mul_comm] using this
  rcases Nat.mod_two_eq_zero_or_one j with h2 | h2
  · have ej : j = 2 * (j / 2) := by omega
    rw [ej] at hj ⊢
    rw [List.getElem?_map, ha] at hj
    rw [g0]; exact hj
  · have ej : j = 2 * (j / 2) + 1 := by omega
    rw [ej] at hj ⊢
    rw [List.getElem?_map, hb] at hj
    rw [g1]; exact hj
theorem gL : Tryz.prog.globalNamed "colophon/class.letters" = some 2 := by kernel_rfl
theorem gO : Tryz.prog.globalNamed "colophon/class.others" = some 3 := by kernel_rfl
theorem tL : (Tryz.prog.globals[2]?).map (·.type) = some 146 := by kernel_rfl
theorem tO : (Tryz.prog.globals[3]?).map (·.type) = some 152 := by kernel_rfl
theorem gEt : Tryz.prog.globalNamed "errors.errorType" = some 0 := by kernel_rfl
theorem tRt : (Tryz.prog.cutTypes.find? (·.1 == "internal/reflectlite.rtype")).map (·.2) = some 99 := by kernel_rfl
theorem tRows : ((List.range 190).filter fun t => Tryz.prog.rowNamed t [101, 114, 114, 111, 114]) = [32] := by kernel_rfl
theorem tSize : Tryz.prog.types.size = 190 := by kernel_rfl
abbrev laidV : List (String × DataW Unit) := [("unicode/utf8.acceptRanges", Rows.laid_unicode_utf8_acceptRanges), ("errors.errorType", Rows.laid_errors_errorType), ("colophon/class.letters", Rows.laid_colophon_class_letters), ("colophon/class.others", Rows.laid_colophon_class_others), ("unicode/utf8.first", Rows.laid_unicode_utf8_first)]
abbrev laidP : List (String × DataW Unit) := [("unicode/utf8.acceptRanges", Rows.laid_unicode_utf8_acceptRanges), ("colophon/class.letters", Rows.laid_colophon_class_letters), ("colophon/class.others", Rows.laid_colophon_class_others), ("unicode/utf8.first", Rows.laid_unicode_utf8_first)]
theorem errT_of_handles {W : World} (h : handlesMet Tryz.prog [("errors.errorType", Rows.laid_errors_errorType)] W) : ErrT W := by
  obtain ⟨name, u, ty, e1, e2, e3, e4, e5⟩ := h _ (List.mem_singleton.2 rfl)
  have en : name = [101, 114, 114, 111, 114] := (Option.some.inj e1).symm
  subst en
  obtain rfl := Option.some.inj (tRt.symm.trans e2)
  have hm : ty ∈ (List.range 190).filter fun t => Tryz.prog.rowNamed t [101, 114, 114, 111, 114] := List.mem_filter.2 ⟨List.mem_range.2 (by rw [← tSize]; exact e3), e4⟩
  rw [tRows] at hm
  obtain rfl := List.mem_singleton.1 hm
  have hh : typeHandle Tryz.prog 32 = hnd 32 := by kernel_rfl
  rw [hh] at e5
  unfold ErrT
  simpa using World.var?_cell gEt e5 0
theorem notes_of_laid {W : World} (h : laidMetH Tryz.prog laidV W) : Clas W ∧ ErrT W := by
  have h' : laidMet Tryz.prog laidP W ∧ handlesMet Tryz.prog [("errors.errorType", Rows.laid_errors_errorType)] W := h
  refine ⟨?_, errT_of_handles h'.2⟩
  obtain ⟨ps, ⟨_, _, _, _, _, _, _, _, _, _, ⟨g0, t0, cs0, f0, p0, q0, hg0, ht0, hv0, hd0, ⟨g1, t1, cs1, f1, p1, q1, hg1, ht1, hv1, hd1, _, _⟩, _⟩, _⟩, _, _⟩ := h'.1
  obtain rfl := Option.some.inj (gL.symm.trans hg0)
  obtain rfl := Option.some.inj (gO.symm.trans hg1)
  obtain rfl := Option.some.inj (tL.symm.trans ht0)
  obtain rfl := Option.some.inj (tO.symm.trans ht1)
  refine ⟨fun j v hj => ?_, fun j v hj => ?_⟩
  · have := pair_cells (L := ltrL) Tryz.underlying146 (by decide) hd0 j v hj
    rw [Nat.zero_add, World.var?_cell hg0 hv0 j]; simpa using this
  · have := pair_cells (L := othL) Tryz.underlying152 (by decide) hd1 j v hj
    rw [Nat.zero_add, World.var?_cell hg1 hv1 j]; simpa using this
/-- The program's own beginning, the handle laid. -/
noncomputable def hndW (os : Os) : World :=
  let w0 := World.holding Tryz.prog os ⟨#[], #[], []⟩
  { w0 with heap := w0.heap.modify 0 fun
      | .cells _ t frozen => .cells #[.iface 99 (.agg #[hnd 32])] t frozen
      | o => o }
/-- A world that meets the condition. -/
noncomputable def laidW (os : Os) : World := (hndW os).layVars Tryz.prog laidP
theorem laidW_os (os : Os) : (laidW os).os = os := (World.layVars_os _ _ _).trans rfl
theorem laidW_met (os : Os) : laidMet Tryz.prog laidP (laidW os) := by
  have e1 : (laidP.filter fun x => (laidP.map (·.1)).contains x.1) = laidP := List.filter_eq_self.2 fun x hx => List.contains_iff_mem.2 (List.mem_map.2 ⟨x, hx, rfl⟩)
  have e2 : (laidP.filter fun x => !(laidP.map (·.1)).contains x.1) = [] := List.filter_eq_nil_iff.2 fun x hx => by rw [List.contains_iff_mem.2 (List.mem_map.2 ⟨x, hx, rfl⟩)]; simp
  exact laidMet_layVars (w0 := hndW os) (laidP.map (·.1)) [] (by rw [e1]; rfl) (by rw [e1]; kernel_rfl) (by rw [e1]; kernel_rfl) (by rw [e2]; exact LaidIn.none)
theorem laid_met (os : Os) (args : Array Value) : laidMetH Tryz.prog laidV ((laidW os).forCall (fun _ _ => 0) ⟨#[], args, []⟩).memory :=
  laidMetH_of_parts (((laidW_met os).of_heap (by simp [World.memory, World.forCall, Input.heap])) : laidMet Tryz.prog laidP _) (by kernel_rfl)
end Go.Proofs.YtdphhmigbbgjmaaGreatDoor
end
