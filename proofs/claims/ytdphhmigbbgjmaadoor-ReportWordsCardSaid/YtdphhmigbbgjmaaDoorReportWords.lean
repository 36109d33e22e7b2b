/- A law of report, in the card's form: whatever the name, the source and the text, an error that holds no Fault is told by its own word, a nil Fault and no error as the document has it. Conditions: the listed tables lie as laid. -/
import Derived.Test.YtdphhmigbbgjmaaDoorR6
import Derived.Test.YtdphhmigbbgjmaaDoorR7
import Derived.Test.YtdphhmigbbgjmaaDoorM9
import Derived.Test.YtdphhmigbbgjmaaDoorRows
import Derived.Test.YtdphhmigbbgjmaaDoorCards
import Derived.Test.YtdphhmigbbgjmaaDoorTie
import Derived.SevenTiedAt
namespace Go.Proofs.YtdphhmigbbgjmaaDoor
open Go.RowKit Go.Lib
namespace reportWords
open Go.ChangeShapes Go.WideShapes Go.ChangeAt
open Go.ChangeMaps (open_string shut_string)
set_option linter.unusedVariables false

theorem own : ownKnob Tryd.prog.godebug = none := by kernel_rfl
set_option maxRecDepth 100000 in
theorem lifted (os : Os) (started : os.Started) (H : Type) (enc : TypeId × Value → H) :
    ReturnsInHanded {} Tryd.checked os 9 .any (fun w args => (Rows.reportWordsSpec.pre enc Tryd.prog Tryd.f9 [] false w args ∧ laidMetH Tryd.prog laidV w) ∧ sizedMet enc Tryd.prog Tryd.f9 (OpenSpec.ofChange Rows.reportWordsSpec) false w args)
      (Rows.reportWordsSpec.post enc Tryd.prog Tryd.f9 false true false false) := by
  refine returnsInHanded_of_change_and (C := Tryd.checked) (X := fun w _ => laidMetH Tryd.prog laidV w) (fun _ _ _ hh h => h.of_heap hh) own started (by kernel_rfl) Tryd.func9
    (ChangeSpec.witness_shaped (enc := enc) (C := Tryd.checked) (os := os) (X := fun w _ => laidMetH Tryd.prog laidV w) false (laidW os) #[.string ByteArray.empty, .string ByteArray.empty, .string ByteArray.empty] 8 (laidW_os os) (World.shaped_of_ZipB (by kernel_rfl) (by kernel_rfl)) (by kernel_rfl) (by kernel_rfl) (by kernel_rfl) (laid_met os _)) ?_
  intro W base args ds gs before hval0 hW _ hsz0 hL _
  have hval : ∀ (j : Nat) t v, Tryd.f9.params[j]? = some t → args[j]? = some v → Value.okWide Tryd.prog W .any base t v := hval0
  have hW' := hW
  obtain ⟨p, q, hA0, hV, rfl, hfz, hnd⟩ := hW
  have hA : DataW.TrodAll enc Tryd.prog W 0 (fun _ => true) true Tryd.f9.params.toList args.toList ds p := hA0
  have hsz : (DataW.weightsEach Tryd.prog (Tryd.f9.params.toList ++ Rows.reportWordsSpec.plain.varTypes Tryd.prog) (ds ++ gs)).all (· ≤ reachBytes) = true := hsz0
  rw [Tryd.params9] at hA hval
  obtain ⟨v0, v1, v2, d0, d1, d2, p0, p1, p2, rfl, rfl, rfl, h0, h1, h2⟩ := trodAll_three hA
  obtain ⟨rfl, rfl⟩ := trodVars_none hV
  have hT := rep_of_laid hL
  clear hA0
  simp only [List.append_nil] at hW' 
  obtain ⟨s0, rfl, z0⟩ : ∃ s : ByteArray, v0 = .string s ∧ s.size ≤ 140737488351232 := by
    obtain ⟨a, e1, e2, _⟩ := open_string Tryd.underlying9 (hval 0 9 v0 rfl rfl) h0
    refine ⟨a, e1, ?_⟩
    have := of_decide_eq_true (List.all_eq_true.1 hsz a.data.toList.length (by rw [Tryd.params9]; simp [DataW.weightsEach, e2, DataW.weights]))
    unfold reachBytes at this; rw [size_len] at this; omega
  obtain ⟨s1, rfl, z1⟩ : ∃ s : ByteArray, v1 = .string s ∧ s.size ≤ 140737488351232 := by
    obtain ⟨a, e1, e2, _⟩ := open_string Tryd.underlying9 (hval 1 9 v1 rfl rfl) h1
    refine ⟨a, e1, ?_⟩
    have := of_decide_eq_true (List.all_eq_true.1 hsz a.data.toList.length (by rw [Tryd.params9]; simp [DataW.weightsEach, e2, DataW.weights]))
    unfold reachBytes at this; rw [size_len] at this; omega
  obtain ⟨s2, rfl, z2⟩ : ∃ s : ByteArray, v2 = .string s ∧ s.size ≤ 140737488351232 := by
    obtain ⟨a, e1, e2, _⟩ := open_string Tryd.underlying9 (hval 2 9 v2 rfl rfl) h2
    refine ⟨a, e1, ?_⟩
    have := of_decide_eq_true (List.all_eq_true.1 hsz a.data.toList.length (by rw [Tryd.params9]; simp [DataW.weightsEach, e2, DataW.weights]))
    unfold reachBytes at this; rw [size_len] at this; omega
  refine (law20_Words s0 s1 s2 z0 z1 z2 W hT).mono fun e W' ⟨he, hg⟩ => ?_
  subst he
  have hlt := fun x hx => DataW.Whole.lt hW' (p := x) hx
  refine ⟨_, rfl, post_below (pa := _) (pv := []) hW' hg (by simp) (fun _ _ _ => (trodAll_cons_mk (shut_bool Tryd.underlying4 _) trodAll_mk0)) (fun sp hs => (trodAll_cons_mk (trod_after (by kernel_rfl) (of_decide_eq_true (by kernel_rfl)) h0 hg (fun x hx => hlt x (by simp only [List.mem_append]; simp [hx])) sp (fun x hx => hs x (by simp only [List.mem_append]; simp [hx]))) (trodAll_cons_mk (trod_after (by kernel_rfl) (of_decide_eq_true (by kernel_rfl)) h1 hg (fun x hx => hlt x (by simp only [List.mem_append]; simp [hx])) sp (fun x hx => hs x (by simp only [List.mem_append]; simp [hx]))) (trodAll_cons_mk (trod_after (by kernel_rfl) (of_decide_eq_true (by kernel_rfl)) h2 hg (fun x hx => hlt x (by simp only [List.mem_append]; simp [hx])) sp (fun x hx => hs x (by simp only [List.mem_append]; simp [hx]))) trodAll_mk0)))) (fun _ _ => rfl) (ok_one (by kernel_rfl) rfl (okWide_bool_mk Tryd.underlying4 _))⟩

theorem over : Rows.ReportWordsSaid :=
  OpenClaim.holds_of_wide 9 Tryd.f9 rfl rfl rfl rfl rfl rfl rfl ⟨rfl, rfl, rfl, rfl, rfl⟩ rfl rfl rfl rfl rfl (by kernel_rfl) Tryd.func9 (by kernel_rfl)
    (of_decide_eq_true (by kernel_rfl)) (by unfold Func.isWrapper; first | (rw [if_pos (by decide +kernel)]; kernel_rfl) | (rw [if_neg (by decide +kernel)]; exact ⟨rfl, rfl⟩))
    (fun os started H enc _ => lifted os started H enc)
theorem proved : Rows.ReportWordsCardSaid :=
  Claim7.holds_tied_plain_at .later [] [.data, .data, .data, .data, .data, .handle] true (true, "1ffedf39593ba2cb31c529a3f3ac1a0aaa6a1317815d7980eea221abf637e447") true
    over (fun _ h => by cases h) (by kernel_rfl) (fun _ h => by cases h) reportWords_row_tie rfl ⟨rfl, rfl⟩ (by kernel_rfl) rfl
    (fun f fn hf hfn => by
      obtain rfl : f = 9 := Option.some.inj ((show Tryd.prog.funcNamed "colophon/colophonlaw20.ReportWords" = some 9 by kernel_rfl).symm.trans hf) |>.symm
      obtain rfl : fn = Tryd.f9 := (Option.some.inj (Tryd.func9.symm.trans hfn)).symm
      exact ⟨by kernel_rfl, fun j t ht => by
        rw [Tryd.params9] at ht
        have hm : t ∈ [9, 9, 9] := by simpa using Array.mem_of_getElem? ht
        have hall : ([9, 9, 9].all fun u => !Tryd.prog.wantsStandIn u) = true := by kernel_rfl
        exact (show Tryd.prog.wantsStandIn t = false by simpa using List.all_eq_true.1 hall t hm)⟩)
    (by kernel_rfl)
end reportWords
end Go.Proofs.YtdphhmigbbgjmaaDoor
