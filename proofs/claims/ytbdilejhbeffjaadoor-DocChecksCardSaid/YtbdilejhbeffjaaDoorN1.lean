/- The tables of package doc and strconv, out of the row's condition on the listed variables; and a world that meets it. What was read ahead of a call reads so behind it; texts and numbers among the arguments. From a walk that keeps all that lay in memory to the row's post (the guide's lemma for copying, turned to these claims). No program; no condition. A layout among the arguments: what it reads as, as a row that is read, and how long it may be. -/
import Derived.Test.YtbdilejhbeffjaaDoorDocW
import Derived.Test.YtbdilejhbeffjaaDoorRows
import Derived.ProofKit
import Derived.LaidMore
import Derived.OpenShut
import Derived.ChangeSame
import Derived.Stop.Joined
import Derived.Lay
import Derived.Lib.LaidTab
import Derived.ShutString
import Derived.WideKeyArgs
import Derived.Carry
import Derived.ChangeOld
import Derived.Lib.SmallJoins
import Derived.Below
import Derived.Test.YtbdilejhbeffjaaDoorPDoc0
import Derived.Deep.Slices
import Derived.Handed
section
namespace Go.Proofs.YtbdilejhbeffjaaDoor
open Go.ChangeShapes Go.WideShapes Go.ChangeAt Go.RowKit
theorem trod_errIface {H : Type} {enc : TypeId × Value → H} {W : World} {base fuel : Nat} {sp : Nat → Bool} {hd : Bool} {ms : Array (String × TypeId)} {T : TypeId} {cs : List Value} {nm : String} {d : DataW H} {ps : List MemPlace} (hu : Tryd.prog.underlying T = some (.interface ms))
    (h : DataW.trod enc Tryd.prog W base sp hd fuel T cs = some (.iface nm d, ps)) : ∃ u v, cs = [.iface u v] := by
  cases fuel with
  | zero => simp [DataW.trod] at h
  | succ n =>
    unfold DataW.trod at h
    rw [hu] at h
    split at h <;> simp_all
theorem str_cells {H : Type} {enc : TypeId × Value → H} {W : World} {base fuel : Nat} {sp : Nat → Bool} {hd : Bool} {T : TypeId} {n : Nat} {cs : List Value} {L : List ByteArray} {ps : List MemPlace} (hu : Tryd.prog.underlying T = some (.array n 9)) (hL : L.length = n)
    (h : DataW.trod enc Tryd.prog W base sp hd fuel T cs = some (.agg (L.map fun s => .lit (.string s.data.toList)), ps)) : ∀ (j : Nat) (v : Value), (L.map Value.string)[j]? = some v → cs[j]? = some v := by
  obtain ⟨xs, m, rfl, hx, hl, hn, hel⟩ := DataW.trod_array hu h
  simp only [Prod.mk.injEq, DataW.agg.injEq] at hx
  rw [show Tryd.prog.cellsOf 9 = 1 by kernel_rfl] at hel
  intro j v hj
  have hjl : j < n := by
    have := (List.getElem?_eq_some_iff.1 hj).1
    simpa [hL] using this
  have he := hel j hjl
  obtain ⟨x, hxe⟩ : ∃ x, xs[j]? = some x := ⟨_, List.getElem?_eq_getElem (by omega)⟩
  rw [hxe] at he
  obtain ⟨s, e1, e2, _⟩ := DataW.trod_string Tryd.underlying9 he
  obtain ⟨z, hz⟩ : ∃ z, L[j]? = some z := ⟨_, List.getElem?_eq_getElem (by omega)⟩
  have h2 : (L.map fun s => (DataW.lit (.string s.data.toList) : DataW H))[j]? = (xs.map (·.1))[j]? := by rw [hx.1]
  rw [List.getElem?_map, List.getElem?_map, hz, hxe] at h2
  have h2 := Option.some.inj h2
  rw [e2] at h2
  simp only [DataW.lit.injEq, Lit.string.injEq] at h2
  have hzs : z = s := by
    cases z; cases s; simp at h2; rw [h2]
  rw [List.getElem?_map, hz] at hj
  have hj := Option.some.inj hj
  rw [hzs] at hj
  have := congrArg (fun l => l[0]?) e1
  simp at this
  rw [← hj]
  simpa [List.getElem?_take, List.getElem?_drop] using this
theorem gWd : Tryd.prog.globalNamed "colophon/doc.words" = some 0 := by kernel_rfl
theorem gEs : Tryd.prog.globalNamed "strconv.ErrSyntax" = some 4 := by kernel_rfl
theorem gEr : Tryd.prog.globalNamed "strconv.ErrRange" = some 5 := by kernel_rfl
theorem tWd : (Tryd.prog.globals[0]?).map (·.type) = some 112 := by kernel_rfl
theorem tEs : (Tryd.prog.globals[4]?).map (·.type) = some 109 := by kernel_rfl
theorem tEr : (Tryd.prog.globals[5]?).map (·.type) = some 109 := by kernel_rfl
theorem tPow : (Tryd.prog.globals[6]?).map (·.type) = some 171 := by kernel_rfl
abbrev laidV : List (String × DataW Unit) := [("math/bits.deBruijn32tab", Rows.laid_math_bits_deBruijn32tab), ("math/bits.deBruijn64tab", Rows.laid_math_bits_deBruijn64tab), ("internal/strconv.uint64pow10", Rows.laid_internal_strconv_uint64pow10), ("strconv.ErrRange", Rows.laid_strconv_ErrRange), ("strconv.ErrSyntax", Rows.laid_strconv_ErrSyntax), ("colophon/doc.words", Rows.laid_colophon_doc_words)]
theorem pow_data : (Rows.laid_internal_strconv_uint64pow10 : DataW Unit) = Lib.tabData .u64 Lib.pow10Tab := by kernel_rfl
theorem words_data : (Rows.laid_colophon_doc_words : DataW Unit) = .agg (wordsL.map fun s => .lit (.string s.data.toList)) := by kernel_rfl
theorem wrds_of_laid {W : World} (h : laidMetH Tryd.prog laidV W) : Wrds W := by
  rw [MakeChecks.laidMetH_plain _ _ _ (by kernel_rfl)] at h
  obtain ⟨ps, ⟨_, _, _, _, _, _, _, _, _, _, ⟨_, _, _, _, _, _, _, _, _, _, ⟨g0, t0, cs0, f0, p0, q0, hg0, ht0, hv0, hd0, ⟨g1, t1, cs1, f1, p1, q1, hg1, ht1, hv1, hd1, ⟨g2, t2, cs2, f2, p2, q2, hg2, ht2, hv2, hd2, ⟨g3, t3, cs3, f3, p3, q3, hg3, ht3, hv3, hd3, _, _⟩, _⟩, _⟩, _⟩, _⟩, _⟩, _, _⟩ := h
  obtain rfl := Option.some.inj (gPow.symm.trans hg0)
  obtain rfl := Option.some.inj (gEr.symm.trans hg1)
  obtain rfl := Option.some.inj (gEs.symm.trans hg2)
  obtain rfl := Option.some.inj (gWd.symm.trans hg3)
  obtain rfl := Option.some.inj (tPow.symm.trans ht0)
  obtain rfl := Option.some.inj (tEr.symm.trans ht1)
  obtain rfl := Option.some.inj (tEs.symm.trans ht2)
  obtain rfl := Option.some.inj (tWd.symm.trans ht3)
  rw [pow_data] at hd0
  rw [words_data] at hd3
  refine ⟨fun j v hj => ?_, ?_, ?_, ?_⟩
  · have := str_cells (L := wordsL) Tryd.underlying112 (by decide) hd3 j v hj
    rw [Nat.zero_add, World.var?_cell hg3 hv3 j]; simpa using this
  · unfold Lib.TabIs
    rw [hv0, ← Lib.cells_of_tab Tryd.underlying171 Tryd.underlying155 (by kernel_rfl) (by kernel_rfl) hd0]
  · obtain ⟨u, v, e⟩ := trod_errIface Tryd.underlying109 hd2
    exact ⟨u, v, by rw [World.var?_cell hg2 hv2 0, ← Array.getElem?_toList, e]; rfl⟩
  · obtain ⟨u, v, e⟩ := trod_errIface Tryd.underlying109 hd1
    exact ⟨u, v, by rw [World.var?_cell hg1 hv1 0, ← Array.getElem?_toList, e]; rfl⟩
/-- A world that meets the condition. -/
theorem laid_met (os : Os) (args : Array Value) : laidMetH Tryd.prog laidV ((World.laidAll Tryd.prog os laidV).forCall (fun _ _ => 0) ⟨#[], args, []⟩).memory := by
  rw [MakeChecks.laidMetH_plain _ _ _ (by kernel_rfl)]; exact laidMet_laidAll _ (by kernel_rfl) (by kernel_rfl)
end Go.Proofs.YtbdilejhbeffjaaDoor
end
section
namespace Go.Proofs.YtbdilejhbeffjaaDoor
open Go.ChangeShapes Go.WideShapes Go.ChangeAt Go.RowKit
theorem laidOut : laidOutB Tryd.prog = true := by kernel_rfl
/-- What was read ahead of the call reads so behind it. -/
theorem trod_after {H : Type} {enc : TypeId × Value → H} {t : TypeId} (hr : Tryd.prog.readableRec t = true) (hrow : t < Tryd.prog.types.size) {W W' : World} {v : Value} {d : DataW H} {ps : List MemPlace}
    (h : DataW.Trod enc Tryd.prog W 0 (fun _ => true) true t v d ps) (hb : Below W.heap.size W W') (hlt : ∀ x ∈ ps, x.block < W.heap.size) (sp : Nat → Bool) (hs : ∀ x ∈ ps, sp x.block = true) : DataW.Trod enc Tryd.prog W' 0 sp true t v d ps :=
  WideElems.Trod_stays laidOut hr hrow h (fun x hx => hb.same (hlt x hx)) hs
end Go.Proofs.YtbdilejhbeffjaaDoor
end
section
namespace Go.Proofs.YtbdilejhbeffjaaDoor
open Go.ChangeShapes Go.WideShapes Go.ChangeAt Go.RowKit Go.Joins
section
variable {H : Type} {enc : TypeId × Value → H} {P : Program}
theorem post_below {f : Func} {s : ChangeSpec} {apart fresh handsOn again : Bool} {W W' : World} {args : Array Value} {v : Value} {ds gs : List (DataW H)} {before pa pv : List MemPlace}
    (hW : DataW.Whole enc P f.params.toList s.vars apart W args.toList ds gs before) (hb : Below W.heap.size W W') (hps : before = pa ++ pv)
    (hres : ∀ (b : Nat) (sp : Nat → Bool) (hd : Bool), DataW.TrodAll enc P W' b sp hd f.resultTypes.toList (v.resultList f.resultTypes.size) (s.fn H (ds ++ gs)).results [])
    (hargs : ∀ sp : Nat → Bool, (∀ p ∈ before, sp p.block = true) → DataW.TrodAll enc P W' 0 sp true f.params.toList args.toList (s.fn H (ds ++ gs)).args pa)
    (hvars : ∀ sp : Nat → Bool, (∀ p ∈ before, sp p.block = true) → DataW.TrodVars enc P W' sp s.vars (s.fn H (ds ++ gs)).vars pv)
    (hok : ∀ (j : Nat) (t : TypeId) (r : Value), f.resultTypes[j]? = some t → (v.resultList f.resultTypes.size)[j]? = some r → Value.okWide P W' .any 0 t r) :
    s.post enc P f apart fresh handsOn again W args v W' := by
  have hlt : ∀ p ∈ before, p.block < W.heap.size := fun p hp => hW.lt p hp
  have hold : ∀ p ∈ before, (fun b => decide (b < W.heap.size)) p.block = true := fun p hp => by simpa using hlt p hp
  refine ⟨ds, gs, before, [], pa, pv, hW, hres _ _ _, hargs _ hold, hvars _ hold, World.keptBut_mono (fun p hp => ⟨hp, ?_⟩) (hb.frame (· ∈ before)), fun _ => ?_⟩
  · rw [hps, List.mem_append] at hp; exact .inr hp
  · obtain ⟨_, _, _, _, _, hz, hn⟩ := hW
    refine ⟨hok, _, _, ([] ++ pa) ++ pv, ⟨[] ++ pa, pv, trodAll_append (hargs _ (fun _ _ => rfl)) (hres _ _ _), hvars _ (fun _ _ => rfl), rfl, fun b off hp => ?_, fun ha => ?_⟩, fun p hp _ => ?_⟩
    · have hin : MemPlace.cell b off ∈ before := by rw [hps]; simpa using hp
      rw [hb.frozen (hlt _ hin)]; exact hz b off hin
    · have := hn ha; rw [hps] at this; simpa using this
    · rw [hps]; simpa using hp
end
end Go.Proofs.YtbdilejhbeffjaaDoor
end
section
namespace Go.Proofs.YtbdilejhbeffjaaDoor
open Go.ChangeShapes Go.WideShapes Go.ChangeAt Go.RowKit PDoc
open Go.Proofs.YtbdilejhbeffjaaDoorW.PrintWords
set_option linter.unusedVariables false
set_option linter.unusedSimpArgs false
theorem cells_doc : Tryd.prog.cellsOf 33 = 5 := by kernel_rfl
theorem cells_k : Tryd.prog.cellsOf 31 = 1 := by kernel_rfl
theorem cells_1 : Tryd.prog.cellsOf 3 = 1 := by kernel_rfl
theorem cells_b : Tryd.prog.cellsOf 4 = 1 := by kernel_rfl
theorem cells_s : Tryd.prog.cellsOf 9 = 1 := by kernel_rfl
theorem bytes_doc : Tryd.prog.bytesOf 33 = 48 := by kernel_rfl
set_option maxHeartbeats 1000000 in
set_option maxRecDepth 100000 in
theorem open_docC {H : Type} {enc : TypeId × Value → H} {W : World} {base fuel : Nat} {sp : Nat → Bool} {hd : Bool} {cs : List Value} {x : DataW H × List MemPlace} (h : DataW.trod enc Tryd.prog W base sp hd fuel 33 cs = some x) :
    ∃ d : S33, cs = [.int .u8 d.f0, .string d.f1, .int .i64 d.f2, .int .i64 d.f3, .bool d.f4] ∧ 0 ≤ d.f0 := by
  obtain ⟨xs, n, _, rfl, hl, hlen, hf⟩ := DataW.trod_struct Tryd.underlying33 h
  rw [cells_doc] at hl
  match cs, hl with
  | [c0, c1, c2, c3, c4], _ =>
    match xs, hlen with
    | [y0, y1, y2, y3, y4], _ =>
      have g0 := hf 0 _ rfl; have g1 := hf 1 _ rfl; have g2 := hf 2 _ rfl; have g3 := hf 3 _ rfl; have g4 := hf 4 _ rfl
      simp [cells_1, cells_b, cells_s, cells_k] at g0 g1 g2 g3 g4
      obtain ⟨k, e0, f0, w0⟩ := DataW.trod_int Tryd.underlying31 g0
      obtain ⟨t, e1, f1, _⟩ := DataW.trod_string Tryd.underlying9 g1
      obtain ⟨b, e2, f2, w2⟩ := DataW.trod_int Tryd.underlying3 g2
      obtain ⟨m, e3, f3, w3⟩ := DataW.trod_int Tryd.underlying3 g3
      obtain ⟨v, e4, f4⟩ := DataW.trod_bool Tryd.underlying4 g4
      simp at e0 e1 e2 e3 e4
      have hk : 0 ≤ k := by
        have hm : IntKind.u8.min = 0 := by decide
        simp [Lit.wf, IntKind.wrap, hm] at w0
        omega
      exact ⟨⟨k, t, b, m, v⟩, by rw [e0, e1, e2, e3, e4], hk⟩
set_option maxRecDepth 100000 in
theorem open_docsC {H : Type} {enc : TypeId × Value → H} {W : World} {base b0 : Nat} {r : Reach} {sp : Nat → Bool} {v : Value} {d : DataW H} {ps : List MemPlace} (hval : Value.okWide Tryd.prog W r b0 23 v) (h : DataW.Trod enc Tryd.prog W base sp true 23 v d ps) (hw : ∀ x ∈ DataW.weights Tryd.prog 23 d, x ≤ reachBytes) :
    ∃ ao cap S, v = .slice ao (List.length S) cap ∧ Kd.C k33 W ao S.length S ∧ S.length ≤ cap ∧ (∀ d ∈ S, 0 ≤ d.f0) ∧ S.length ≤ 2900000000000 + 32031007317 := by
  obtain ⟨a, len, cap, rfl⟩ := okWide_slice Tryd.underlying23 hval
  obtain ⟨fuel, hf⟩ := h
  simp only [Value.cells] at hf
  rcases Go.Deep.open_slice Tryd.underlying23 hf with ⟨h0, _⟩ | ⟨a', len', cap', m, n, D, Pl, hcs, _, hl, _, hm, hx, hel⟩
  · simp at h0
    obtain ⟨rfl, rfl, rfl⟩ := h0
    exact ⟨none, 0, [], rfl, ⟨rfl, by simp, fun h => by simp at h⟩, by simp, by simp, by simp⟩
  · simp at hcs
    obtain ⟨rfl, rfl, rfl⟩ := hcs
    have hlm : len ≤ m := by rw [hm]; split <;> omega
    have each : ∀ i, i < len → ∃ q : S33, (∀ j, j < 5 → W.cell? ((a'.add (i * 5)).add j) = [Value.int .u8 q.f0, .string q.f1, .int .i64 q.f2, .int .i64 q.f3, .bool q.f4][j]?) ∧ 0 ≤ q.f0 := fun i hi => by
      obtain ⟨cs', h1, h2⟩ := hel i (by omega)
      obtain ⟨q, rfl, hq⟩ := open_docC h2
      rw [cells_doc] at h1
      obtain ⟨_, _, hc⟩ := World.cells?_some h1
      exact ⟨q, hc, hq⟩
    obtain ⟨f, hf'⟩ : ∃ f : Nat → S33, ∀ i, i < len → (∀ j, j < 5 → W.cell? ((a'.add (i * 5)).add j) = [Value.int .u8 (f i).f0, .string (f i).f1, .int .i64 (f i).f2, .int .i64 (f i).f3, .bool (f i).f4][j]?) ∧ 0 ≤ (f i).f0 :=
      ⟨fun i => if h : i < len then Classical.choose (each i h) else ⟨0, ⟨#[]⟩, 0, 0, false⟩, fun i hi => by simp only [hi, dif_pos]; exact Classical.choose_spec (each i hi)⟩
    have hd : d = DataW.slice ((List.range len).map D) ((List.range (m - len)).map fun j => D (len + j)) := congrArg Prod.fst hx
    have hsz : len ≤ 2900000000000 + 32031007317 := by
      have h1 := hw ((len + (m - len)) * Tryd.prog.bytesOf 33) (by
        rw [hd]
        unfold DataW.weights
        rw [Tryd.underlying23]
        simp)
      rw [bytes_doc] at h1
      unfold reachBytes at h1
      omega
    refine ⟨some a', cap, (List.range len).map f, by simp, ⟨rfl, by simp; omega, fun _ => ⟨a', rfl, fun j p hp => ?_⟩⟩, by simp; omega, fun q hq => ?_, by simpa using hsz⟩
    · have hi : j < len := by have := (List.getElem?_eq_some_iff.1 hp).1; simpa using this
      have hqf : f j = p := by simpa [hi] using hp
      subst hqf
      refine ⟨_, rfl, k33_mk W (f j), fun i u hu => ?_⟩
      have hi5 : i < 5 := by have := (List.getElem?_eq_some_iff.1 hu).1; simpa using this
      have h0 := (hf' j hi).1 i hi5
      rw [hu] at h0
      have hsp : a'.spot = none := by
        have h0 := (hf' 0 (by omega)).1 0 (by omega)
        cases hs : a'.spot with
        | none => rfl
        | some z =>
          simp [Addr.add, World.cell?, hs] at h0
          split at h0 <;> simp at h0
      rw [← h0]
      congr 1
      obtain ⟨b, o, s⟩ := a'
      simp only at hsp
      subst hsp
      unfold Addr.add
      have hs5 : k33.sz = 5 := rfl
      rw [hs5]
      by_cases h1 : j * 5 = 0 <;> by_cases h2 : i = 0 <;> simp [h1, h2] <;> omega
    · obtain ⟨i, hi, rfl⟩ := List.mem_map.1 hq
      exact (hf' i (by simpa using hi)).2
end Go.Proofs.YtbdilejhbeffjaaDoor
end
