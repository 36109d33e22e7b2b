/- Proved: colophonlaw19.NotesOf returns true for every source. No condition. -/
import Derived.Test.YtdphhmigbbgjmaaGreatDoorN2
import Derived.Test.YtdphhmigbbgjmaaGreatDoorM9
import Derived.Test.YtdphhmigbbgjmaaGreatDoorCards
import Derived.Test.YtdphhmigbbgjmaaGreatDoorTie
import Derived.SevenTiedAt
namespace Go.Proofs.YtdphhmigbbgjmaaGreatDoor
open Go.RowKit Go.Lib
namespace notesOf
open Go.ChangeShapes Go.WideShapes Go.ChangeAt
open Go.ChangeMaps (open_string shut_string)
set_option linter.unusedVariables false

theorem own : ownKnob Tryz.prog.godebug = none := by kernel_rfl
set_option maxRecDepth 100000 in
theorem lifted (os : Os) (started : os.Started) (H : Type) (enc : TypeId × Value → H) :
    ReturnsInHanded {} Tryz.checked os 3 .any (fun w args => (Rows.notesOfSpec.pre enc Tryz.prog Tryz.f3 [] false w args ∧ laidMetH Tryz.prog laidV w) ∧ sizedMet enc Tryz.prog Tryz.f3 (OpenSpec.ofChange Rows.notesOfSpec) false w args)
      (Rows.notesOfSpec.post enc Tryz.prog Tryz.f3 false true false false) := by
  refine returnsInHanded_of_change_and (C := Tryz.checked) (X := fun w _ => laidMetH Tryz.prog laidV w) (fun _ _ _ hh h => h.of_heap hh) own started (by kernel_rfl) Tryz.func3
    (ChangeSpec.witness_shaped (enc := enc) (C := Tryz.checked) (os := os) (X := fun w _ => laidMetH Tryz.prog laidV w) false (laidW os) #[.string ByteArray.empty] 8 (laidW_os _) (World.shaped_of_ZipB (by kernel_rfl) (by kernel_rfl)) (by kernel_rfl) (by kernel_rfl) (by kernel_rfl) (laid_met os _)) ?_
  intro W base args ds gs before hval0 hW _ _ hL _
  have hval : ∀ (j : Nat) t v, Tryz.f3.params[j]? = some t → args[j]? = some v → Value.okWide Tryz.prog W .any base t v := hval0
  have hW' := hW
  obtain ⟨p, q, hA0, hV, rfl, hfz, hnd⟩ := hW
  have hA : DataW.TrodAll enc Tryz.prog W 0 (fun _ => true) true Tryz.f3.params.toList args.toList ds p := hA0
  rw [Tryz.params3] at hA hval
  obtain ⟨v0, d0, rfl, rfl, h0⟩ := trodAll_one hA
  obtain ⟨rfl, rfl⟩ := trodVars_none hV
  have hT := notes_of_laid hL
  clear hA0
  simp only [List.append_nil] at hW' 
  obtain ⟨s0, rfl⟩ : ∃ s, v0 = .string s := by
    obtain ⟨a, e1, _⟩ := open_string Tryz.underlying9 (hval 0 9 v0 rfl rfl) h0
    exact ⟨a, e1⟩
  refine (law19_NotesOf s0 W hT).mono fun e W' ⟨he, hg⟩ => ?_
  subst he
  have hlt := fun x hx => DataW.Whole.lt hW' (p := x) hx
  refine ⟨_, rfl, post_below (pa := p) (pv := []) hW' hg (by simp) (fun _ _ _ => (trodAll_cons_mk (shut_bool Tryz.underlying4 _) trodAll_mk0)) (fun sp hs => (trodAll_mk1 (trod_after (by kernel_rfl) (of_decide_eq_true (by kernel_rfl)) h0 hg (fun x hx => hlt x (hx)) sp (fun x hx => hs x (hx))))) (fun _ _ => rfl) (ok_one (by kernel_rfl) rfl (okWide_bool_mk Tryz.underlying4 _))⟩

theorem over : Rows.NotesOfSaid :=
  OpenClaim.holds_of_wide 3 Tryz.f3 rfl rfl rfl rfl rfl rfl rfl ⟨rfl, rfl, rfl, rfl, rfl⟩ rfl rfl rfl rfl rfl (by kernel_rfl) Tryz.func3 (by kernel_rfl)
    (of_decide_eq_true (by kernel_rfl)) (by unfold Func.isWrapper; first | (rw [if_pos (by decide +kernel)]; kernel_rfl) | (rw [if_neg (by decide +kernel)]; exact ⟨rfl, rfl⟩))
    (fun os started H enc _ => lifted os started H enc)
theorem proved : Rows.NotesOfCardSaid :=
  Claim7.holds_tied_plain_at .later [] [.data, .handle, .data, .data, .pinned] true (true, "e8d572008f919c858942fc0ecd8f3f4aecb9c7b2646a8b2202ced9f6cd44eccd") true
    over (fun _ h => by cases h) (by kernel_rfl) (fun _ h => by cases h) notesOf_row_tie rfl ⟨rfl, rfl⟩ (by kernel_rfl) rfl
    (fun f fn hf hfn => by
      obtain rfl : f = 3 := Option.some.inj ((show Tryz.prog.funcNamed "colophon/colophonlaw19.NotesOf" = some 3 by kernel_rfl).symm.trans hf) |>.symm
      obtain rfl : fn = Tryz.f3 := (Option.some.inj (Tryz.func3.symm.trans hfn)).symm
      exact ⟨by kernel_rfl, fun j t ht => by
        rw [Tryz.params3] at ht
        have hm : t ∈ [9] := by simpa using Array.mem_of_getElem? ht
        have hall : ([9].all fun u => !Tryz.prog.wantsStandIn u) = true := by kernel_rfl
        exact (show Tryz.prog.wantsStandIn t = false by simpa using List.all_eq_true.1 hall t hm)⟩)
    (by kernel_rfl)
end notesOf
end Go.Proofs.YtdphhmigbbgjmaaGreatDoor
