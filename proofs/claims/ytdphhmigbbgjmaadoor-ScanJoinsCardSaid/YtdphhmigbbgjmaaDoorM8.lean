/- What was read ahead of a call reads so behind it; texts and numbers among the arguments. The tables of package class, out of the row's condition on the listed variables; and a world that meets it. From a walk that keeps all that lay in memory to the row's post (the guide's lemma for copying, turned to these claims). No program; no condition. -/
import Derived.Test.YtdphhmigbbgjmaaDoorRows
import Derived.ProofKit
import Derived.OpenShut
import Derived.ShutString
import Derived.WideKeyArgs
import Derived.Carry
import Derived.ChangeOld
import Derived.Test.YtdphhmigbbgjmaaDoorM2
import Derived.LaidMore
import Derived.ChangeSame
import Derived.Stop.Joined
import Derived.Lay
import Derived.Lib.SmallJoins
import Derived.Below
section
namespace Go.Proofs.YtdphhmigbbgjmaaDoor
open Go.ChangeShapes Go.WideShapes Go.ChangeAt Go.RowKit
theorem laidOut : laidOutB Tryd.prog = true := by kernel_rfl
/-- What was read ahead of the call reads so behind it. -/
theorem trod_after {H : Type} {enc : TypeId × Value → H} {t : TypeId} (hr : Tryd.prog.readableRec t = true) (hrow : t < Tryd.prog.types.size) {W W' : World} {v : Value} {d : DataW H} {ps : List MemPlace}
    (h : DataW.Trod enc Tryd.prog W 0 (fun _ => true) true t v d ps) (hb : Below W.heap.size W W') (hlt : ∀ x ∈ ps, x.block < W.heap.size) (sp : Nat → Bool) (hs : ∀ x ∈ ps, sp x.block = true) : DataW.Trod enc Tryd.prog W' 0 sp true t v d ps :=
  WideElems.Trod_stays laidOut hr hrow h (fun x hx => hb.same (hlt x hx)) hs
end Go.Proofs.YtdphhmigbbgjmaaDoor
end
section
namespace Go.Proofs.YtdphhmigbbgjmaaDoor
open Go.ChangeShapes Go.WideShapes Go.ChangeAt Go.RowKit
def pairD {H : Type} : List Int → List (DataW H)
  | a :: b :: r => .agg [.lit (.int .i64 a), .lit (.int .i64 b)] :: pairD r
  | _ => []
theorem pairD_at {H : Type} : ∀ (L : List Int) (i : Nat) (x : DataW H), (pairD L)[i]? = some x → ∃ a b, L[2 * i]? = some a ∧ L[2 * i + 1]? = some b ∧ x = .agg [.lit (.int .i64 a), .lit (.int .i64 b)]
  | [], i, x, h => by simp [pairD] at h
  | [_], i, x, h => by simp [pairD] at h
  | a :: b :: r, 0, x, h => ⟨a, b, rfl, rfl, by simpa [pairD] using h.symm⟩
  | a :: b :: r, i + 1, x, h => by
    obtain ⟨c, d, h1, h2, h3⟩ := pairD_at r i x (by simpa [pairD] using h)
    exact ⟨c, d, by rw [show 2 * (i + 1) = 2 * i + 1 + 1 by omega]; simpa using h1, by rw [show 2 * (i + 1) + 1 = 2 * i + 1 + 1 + 1 by omega]; simpa using h2, h3⟩
theorem cells_int : Tryd.prog.cellsOf 3 = 1 := by kernel_rfl
theorem cells_points : Tryd.prog.cellsOf 160 = 2 := by kernel_rfl
set_option maxHeartbeats 1000000 in
theorem pair_cells {H : Type} {enc : TypeId × Value → H} {W : World} {base fuel : Nat} {sp : Nat → Bool} {hd : Bool} {T : TypeId} {n : Nat} {cs : List Value} {L : List Int} {ps : List MemPlace} (hu : Tryd.prog.underlying T = some (.array n 160)) (hL : L.length = 2 * n)
    (h : DataW.trod enc Tryd.prog W base sp hd fuel T cs = some (.agg (pairD L), ps)) : ∀ (j : Nat) (v : Value), (L.map (Value.int .i64))[j]? = some v → cs[j]? = some v := by
  obtain ⟨xs, m, rfl, hx, hl, hn, hel⟩ := DataW.trod_array hu h
  simp only [Prod.mk.injEq, DataW.agg.injEq] at hx
  rw [cells_points] at hel
  intro j v hj
  have hjl : j < 2 * n := by
    have := (List.getElem?_eq_some_iff.1 hj).1
    simpa [hL] using this
  have hi : j / 2 < n := by omega
  have he := hel (j / 2) hi
  obtain ⟨x, hxe⟩ : ∃ x, xs[j / 2]? = some x := ⟨_, List.getElem?_eq_getElem (by omega)⟩
  rw [hxe] at he
  obtain ⟨y0, y1, n2, rfl, hl2, h0, h1⟩ := trod_struct2 Tryd.underlying160 he
  have hd := pairD_at (H := H) L (j / 2) (.agg [y0.1, y1.1]) (by rw [hx.1]; simp [hxe])
  obtain ⟨a, b, ha, hb, hab⟩ := hd
  simp only [DataW.agg.injEq, List.cons.injEq, and_true] at hab
  obtain ⟨k0, e0, f0, _⟩ := DataW.trod_int Tryd.underlying3 h0
  obtain ⟨k1, e1, f1, _⟩ := DataW.trod_int Tryd.underlying3 h1
  rw [f0, f1] at hab
  simp only [DataW.lit.injEq, Lit.int.injEq, true_and] at hab
  obtain ⟨rfl, rfl⟩ := hab
  have g0 : cs[2 * (j / 2)]? = some (.int .i64 k0) := by
    have := congrArg (fun l => l[0]?) e0
    rw [cells_int] at this
    simpa [List.getElem?_take, List.getElem?_drop, Nat.mul_comm] using this
  have g1 : cs[2 * (j / 2) + 1]? = some (.int .i64 k1) := by
    have := congrArg (fun l => l[0]?) e1
    rw [cells_int] at this
    simpa [List.getElem?_take, List.getElem?_drop, Nat.mul_comm] using this
  rcases Nat.mod_two_eq_zero_or_one j with h2 | h2
  · have ej : j = 2 * (j / 2) := by omega
    rw [ej] at hj ⊢
    rw [List.getElem?_map, ha] at hj
    rw [g0]; exact hj
  · have ej : j = 2 * (j / 2) + 1 := by omega
    rw [ej] at hj ⊢
    rw [List.getElem?_map, hb] at hj
    rw [g1]; exact hj
theorem gL : Tryd.prog.globalNamed "colophon/class.letters" = some 4 := by kernel_rfl
theorem gO : Tryd.prog.globalNamed "colophon/class.others" = some 7 := by kernel_rfl
theorem tL : (Tryd.prog.globals[4]?).map (·.type) = some 161 := by kernel_rfl
theorem tO : (Tryd.prog.globals[7]?).map (·.type) = some 197 := by kernel_rfl
abbrev laidV : List (String × DataW Unit) := [("unicode/utf8.acceptRanges", Rows.laid_unicode_utf8_acceptRanges), ("colophon/class.letters", Rows.laid_colophon_class_letters), ("colophon/class.others", Rows.laid_colophon_class_others), ("unicode/utf8.first", Rows.laid_unicode_utf8_first)]
theorem clas_of_laid {W : World} (h : laidMetH Tryd.prog laidV W) : Clas W := by
  rw [MakeChecks.laidMetH_plain _ _ _ (by kernel_rfl)] at h
  obtain ⟨ps, ⟨_, _, _, _, _, _, _, _, _, _, ⟨g0, t0, cs0, f0, p0, q0, hg0, ht0, hv0, hd0, ⟨g1, t1, cs1, f1, p1, q1, hg1, ht1, hv1, hd1, _, _⟩, _⟩, _⟩, _, _⟩ := h
  obtain rfl := Option.some.inj (gL.symm.trans hg0)
  obtain rfl := Option.some.inj (gO.symm.trans hg1)
  obtain rfl := Option.some.inj (tL.symm.trans ht0)
  obtain rfl := Option.some.inj (tO.symm.trans ht1)
  refine ⟨fun j v hj => ?_, fun j v hj => ?_⟩
  · have := pair_cells (L := ltrL) Tryd.underlying161 (by decide) hd0 j v hj
    rw [Nat.zero_add, World.var?_cell hg0 hv0 j]; simpa using this
  · have := pair_cells (L := othL) Tryd.underlying197 (by decide) hd1 j v hj
    rw [Nat.zero_add, World.var?_cell hg1 hv1 j]; simpa using this
/-- A world that meets the condition. -/
theorem laid_met (os : Os) (args : Array Value) : laidMetH Tryd.prog laidV ((World.laidAll Tryd.prog os laidV).forCall (fun _ _ => 0) ⟨#[], args, []⟩).memory := by
  rw [MakeChecks.laidMetH_plain _ _ _ (by kernel_rfl)]; exact laidMet_laidAll _ (by kernel_rfl) (by kernel_rfl)
end Go.Proofs.YtdphhmigbbgjmaaDoor
end
section
namespace Go.Proofs.YtdphhmigbbgjmaaDoor
open Go.ChangeShapes Go.WideShapes Go.ChangeAt Go.RowKit Go.Joins
section
variable {H : Type} {enc : TypeId × Value → H} {P : Program}
theorem post_below {f : Func} {s : ChangeSpec} {apart fresh handsOn again : Bool} {W W' : World} {args : Array Value} {v : Value} {ds gs : List (DataW H)} {before pa pv : List MemPlace}
    (hW : DataW.Whole enc P f.params.toList s.vars apart W args.toList ds gs before) (hb : Below W.heap.size W W') (hps : before = pa ++ pv)
    (hres : ∀ (b : Nat) (sp : Nat → Bool) (hd : Bool), DataW.TrodAll enc P W' b sp hd f.resultTypes.toList (v.resultList f.resultTypes.size) (s.fn H (ds ++ gs)).results [])
    (hargs : ∀ sp : Nat → Bool, (∀ p ∈ before, sp p.block = true) → DataW.TrodAll enc P W' 0 sp true f.params.toList args.toList (s.fn H (ds ++ gs)).args pa)
    (hvars : ∀ sp : Nat → Bool, (∀ p ∈ before, sp p.block = true) → DataW.TrodVars enc P W' sp s.vars (s.fn H (ds ++ gs)).vars pv)
    (hok : ∀ (j : Nat) (t : TypeId) (r : Value), f.resultTypes[j]? = some t → (v.resultList f.resultTypes.size)[j]? = some r → Value.okWide P W' .any 0 t r) :
    s.post enc P f apart fresh handsOn again W args v W' := by
  have hlt : ∀ p ∈ before, p.block < W.heap.size := fun p hp => hW.lt p hp
  have hold : ∀ p ∈ before, (fun b => decide (b < W.heap.size)) p.block = true := fun p hp => by simpa using hlt p hp
  refine ⟨ds, gs, before, [], pa, pv, hW, hres _ _ _, hargs _ hold, hvars _ hold, World.keptBut_mono (fun p hp => ⟨hp, ?_⟩) (hb.frame (· ∈ before)), fun _ => ?_⟩
  · rw [hps, List.mem_append] at hp; exact .inr hp
  · obtain ⟨_, _, _, _, _, hz, hn⟩ := hW
    refine ⟨hok, _, _, ([] ++ pa) ++ pv, ⟨[] ++ pa, pv, trodAll_append (hargs _ (fun _ _ => rfl)) (hres _ _ _), hvars _ (fun _ _ => rfl), rfl, fun b off hp => ?_, fun ha => ?_⟩, fun p hp _ => ?_⟩
    · have hin : MemPlace.cell b off ∈ before := by rw [hps]; simpa using hp
      rw [hb.frozen (hlt _ hin)]; exact hz b off hin
    · have := hn ha; rw [hps] at this; simpa using this
    · rw [hps]; simpa using hp
end
theorem wrap_wf {x : Int} (h : (Lit.int .i64 x).wf = true) : wrap64 x = x := by
  have := bounds_i64 h
  unfold wrap64; omega
end Go.Proofs.YtdphhmigbbgjmaaDoor
end
