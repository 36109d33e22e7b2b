/- A law of report, in the card's form: of every place of a source there is a mark, and what is told there is good text. Conditions: the listed tables lie as laid. -/
import Derived.Test.YtdphhmigbbgjmaaDoorLaidM
import Derived.Test.YtdphhmigbbgjmaaDoorR7
import Derived.Test.YtdphhmigbbgjmaaDoorM9
import Derived.Test.YtdphhmigbbgjmaaDoorRows
import Derived.Test.YtdphhmigbbgjmaaDoorCards
import Derived.Test.YtdphhmigbbgjmaaDoorTie
import Derived.SevenTiedAt
namespace Go.Proofs.YtdphhmigbbgjmaaDoor
open Go.RowKit Go.Lib
namespace reportMarks
open Go.ChangeShapes Go.WideShapes Go.ChangeAt
open Go.ChangeMaps (open_string shut_string)
set_option linter.unusedVariables false

theorem own : ownKnob Tryd.prog.godebug = none := by kernel_rfl
set_option maxRecDepth 100000 in
theorem lifted (os : Os) (started : os.Started) (H : Type) (enc : TypeId × Value → H) :
    ReturnsInHanded {} Tryd.checked os 10 .any (fun w args => (Rows.reportMarksSpec.pre enc Tryd.prog Tryd.f10 [] false w args ∧ laidMetH Tryd.prog laidVM w) ∧ sizedMet enc Tryd.prog Tryd.f10 (OpenSpec.ofChange Rows.reportMarksSpec) false w args)
      (Rows.reportMarksSpec.post enc Tryd.prog Tryd.f10 false true false false) := by
  refine returnsInHanded_of_change_and (C := Tryd.checked) (X := fun w _ => laidMetH Tryd.prog laidVM w) (fun _ _ _ hh h => h.of_heap hh) own started (by kernel_rfl) Tryd.func10
    (ChangeSpec.witness_shaped (enc := enc) (C := Tryd.checked) (os := os) (X := fun w _ => laidMetH Tryd.prog laidVM w) false (laidWM os) #[.string ByteArray.empty, .int .i64 0] 8 (laidWM_os os) (World.shaped_of_ZipB (by kernel_rfl) (by kernel_rfl)) (by kernel_rfl) (by kernel_rfl) (by kernel_rfl) (laid_metM os _)) ?_
  intro W base args ds gs before hval0 hW _ _ hL _
  have hval : ∀ (j : Nat) t v, Tryd.f10.params[j]? = some t → args[j]? = some v → Value.okWide Tryd.prog W .any base t v := hval0
  have hW' := hW
  obtain ⟨p, q, hA0, hV, rfl, hfz, hnd⟩ := hW
  have hA : DataW.TrodAll enc Tryd.prog W 0 (fun _ => true) true Tryd.f10.params.toList args.toList ds p := hA0
  rw [Tryd.params10] at hA hval
  obtain ⟨v0, v1, d0, d1, p0, p1, rfl, rfl, rfl, h0, h1⟩ := trodAll_two hA
  obtain ⟨rfl, rfl⟩ := trodVars_none hV
  have hT := mark_of_laid hL
  clear hA0
  simp only [List.append_nil] at hW' 
  obtain ⟨s0, rfl⟩ : ∃ s, v0 = .string s := by
    obtain ⟨a, e1, _⟩ := open_string Tryd.underlying9 (hval 0 9 v0 rfl rfl) h0
    exact ⟨a, e1⟩
  obtain ⟨s1, rfl, w1⟩ : ∃ x : Int, v1 = .int .i64 x ∧ (Lit.int .i64 x).wf = true := by
    obtain ⟨a, e1, _, _, e4⟩ := open_int Tryd.underlying3 (hval 1 3 v1 rfl rfl) h1
    exact ⟨a, e1, e4⟩
  refine (law20_Marks s0 s1 (wf_inI _ w1) W hT).mono fun e W' ⟨he, hg⟩ => ?_
  subst he
  have hlt := fun x hx => DataW.Whole.lt hW' (p := x) hx
  refine ⟨_, rfl, post_below (pa := _) (pv := []) hW' hg (by simp) (fun _ _ _ => (trodAll_cons_mk (shut_bool Tryd.underlying4 _) trodAll_mk0)) (fun sp hs => (trodAll_cons_mk (trod_after (by kernel_rfl) (of_decide_eq_true (by kernel_rfl)) h0 hg (fun x hx => hlt x (by simp only [List.mem_append]; simp [hx])) sp (fun x hx => hs x (by simp only [List.mem_append]; simp [hx]))) (trodAll_cons_mk (trod_after (by kernel_rfl) (of_decide_eq_true (by kernel_rfl)) h1 hg (fun x hx => hlt x (by simp only [List.mem_append]; simp [hx])) sp (fun x hx => hs x (by simp only [List.mem_append]; simp [hx]))) trodAll_mk0))) (fun _ _ => rfl) (ok_one (by kernel_rfl) rfl (okWide_bool_mk Tryd.underlying4 _))⟩

theorem over : Rows.ReportMarksSaid :=
  OpenClaim.holds_of_wide 10 Tryd.f10 rfl rfl rfl rfl rfl rfl rfl ⟨rfl, rfl, rfl, rfl, rfl⟩ rfl rfl rfl rfl rfl (by kernel_rfl) Tryd.func10 (by kernel_rfl)
    (of_decide_eq_true (by kernel_rfl)) (by unfold Func.isWrapper; first | (rw [if_pos (by decide +kernel)]; kernel_rfl) | (rw [if_neg (by decide +kernel)]; exact ⟨rfl, rfl⟩))
    (fun os started H enc _ => lifted os started H enc)
theorem proved : Rows.ReportMarksCardSaid :=
  Claim7.holds_tied_plain_at .later [] [.data, .data, .data, .data, .data, .data, .handle, .pinned] true (true, "1ffedf39593ba2cb31c529a3f3ac1a0aaa6a1317815d7980eea221abf637e447") true
    over (fun _ h => by cases h) (by kernel_rfl) (fun _ h => by cases h) reportMarks_row_tie rfl ⟨rfl, rfl⟩ (by kernel_rfl) rfl
    (fun f fn hf hfn => by
      obtain rfl : f = 10 := Option.some.inj ((show Tryd.prog.funcNamed "colophon/colophonlaw20.ReportMarks" = some 10 by kernel_rfl).symm.trans hf) |>.symm
      obtain rfl : fn = Tryd.f10 := (Option.some.inj (Tryd.func10.symm.trans hfn)).symm
      exact ⟨by kernel_rfl, fun j t ht => by
        rw [Tryd.params10] at ht
        have hm : t ∈ [9, 3] := by simpa using Array.mem_of_getElem? ht
        have hall : ([9, 3].all fun u => !Tryd.prog.wantsStandIn u) = true := by kernel_rfl
        exact (show Tryd.prog.wantsStandIn t = false by simpa using List.all_eq_true.1 hall t hm)⟩)
    (by kernel_rfl)
end reportMarks
end Go.Proofs.YtdphhmigbbgjmaaDoor
