/- SinkNames: the layer's numbers, a nil sink, and the document's examples: the walk and the card. No condition. -/
import Derived.Test.YtphcmbdmkhmfbaaDoorAwake
import Derived.Test.YtphcmbdmkhmfbaaDoorPost
import Derived.Test.YtphcmbdmkhmfbaaDoorCards
import Derived.Test.YtphcmbdmkhmfbaaDoorTie
import Derived.Test.YtphcmbdmkhmfbaaDoorLaid
import Derived.SevenTiedAt
namespace Go.Proofs.YtphcmbdmkhmfbaaDoor
open Go.RowKit Go.Lib
theorem tabs_lt1 {w : World} (h : Tabs w) : 0 < w.heap.size := cell_lt (h.1 0 _ rfl)
theorem tabs_lt2 {w : World} (h : Tabs w) : 1 < w.heap.size := cell_lt (h.2 0 _ rfl)
set_option maxHeartbeats 4000000 in
theorem sinkNames_walk (w : World) (hT : Tabs w) : Calls Tryd.prog 3 #[] w fun e w' => e = .returned (.bool true) ∧ Below w.heap.size w w' := by
  have hg1 : 0 < w.heap.size := tabs_lt1 hT
  have hg2 : 1 < w.heap.size := tabs_lt2 hT
  have hT := Lib.hid hT
  go_enter Tryd.func3, Tryd.ntmps3
  go_wp2_with fail
  refine (nil_Text _ w).mono ?_
  rintro e w1 ⟨rfl, b1⟩
  replace b1 := Lib.hid b1
  go_wp2_with fail
  refine (nil_Text _ w1).mono ?_
  rintro e w2 ⟨rfl, b2⟩
  replace b1 := Lib.hid (b1.out.trans (b2.mono b1.out.size))
  clear b2
  go_wp2_with (first
    | (go_at_call 13; refine (nil_Blanks _ _).mono ?_; rintro e w' ⟨rfl, rfl⟩)
    | (go_at_call 14; refine (nil_Feed _ _).mono ?_; rintro e w' ⟨rfl, rfl⟩)
    | (go_at_call 15; refine (nil_Empty _).mono ?_; rintro e w' ⟨rfl, rfl⟩)
    | (go_at_call 16; refine (nil_Column _).mono ?_; rintro e w' ⟨rfl, rfl⟩)
    | (go_at_call 17; refine (nil_Fresh _).mono ?_; rintro e w' ⟨rfl, rfl⟩)
    | (go_at_call 18; refine (nil_Take _).mono ?_; rintro e w' ⟨rfl, rfl⟩)
    | (go_at_call 19; refine (awake_true w' (hT.out.below b1.out) (by have := b1.out.size; omega) (by have := b1.out.size; omega)).mono ?_; rintro e w3 ⟨rfl, b3⟩))
  go_ret
  exact ⟨rfl, b1.out.trans (b3.mono b1.out.size)⟩
namespace sinkNames
open Go.ChangeShapes Go.WideShapes Go.ChangeAt Go.Joins
set_option linter.unusedVariables false

theorem own : ownKnob Tryd.prog.godebug = none := by kernel_rfl
set_option maxRecDepth 100000 in
theorem lifted (os : Os) (started : os.Started) (H : Type) (enc : TypeId × Value → H) :
    ReturnsInHanded {} Tryd.checked os 3 .any (fun w args => (Rows.sinkNamesSpec.pre enc Tryd.prog Tryd.f3 [] false w args ∧ laidMetH Tryd.prog laidV w) ∧ sizedMet enc Tryd.prog Tryd.f3 (OpenSpec.ofChange Rows.sinkNamesSpec) false w args)
      (Rows.sinkNamesSpec.post enc Tryd.prog Tryd.f3 false true false false) := by
  refine returnsInHanded_of_change_and (C := Tryd.checked) (X := fun w _ => laidMetH Tryd.prog laidV w) (fun _ _ _ hh h => h.of_heap hh) own started (by kernel_rfl) Tryd.func3
    (ChangeSpec.witness_shaped (enc := enc) (C := Tryd.checked) (os := os) (X := fun w _ => laidMetH Tryd.prog laidV w) false (World.doorLaid Tryd.prog 400 os) #[] 8 rfl (World.shaped_of_RefB (by kernel_rfl) (by kernel_rfl)) (by kernel_rfl) (by kernel_rfl) (by kernel_rfl) (door_met os _)) ?_
  intro W base args ds gs before hval0 hW _ _ hL _
  have hW' := hW
  obtain ⟨p, q, hA0, hV, rfl, hfz, hnd⟩ := hW
  have hA : DataW.TrodAll enc Tryd.prog W 0 (fun _ => true) true Tryd.f3.params.toList args.toList ds p := hA0
  rw [Tryd.params3] at hA
  obtain ⟨rfl, rfl, rfl⟩ := trodAll_none hA
  obtain ⟨rfl, rfl⟩ := trodVars_none hV
  have hT := tabs_of_laid hL
  clear hA0 hval0
  simp only [List.append_nil] at hW'
  refine (sinkNames_walk W hT).mono fun e W' ⟨he, hg⟩ => ?_
  subst he
  exact ⟨_, rfl, post_below (pa := []) (pv := []) hW' hg rfl (fun _ _ _ => (trodAll_cons_mk (shut_bool Tryd.underlying4 _) trodAll_mk0)) (fun sp _ => trodAll_mk0) (fun _ _ => rfl)
    (ok_one (by kernel_rfl) rfl (okWide_bool_mk Tryd.underlying4 _))⟩

theorem over : Rows.SinkNamesSaid :=
  OpenClaim.holds_of_wide 3 Tryd.f3 rfl rfl rfl rfl rfl rfl rfl ⟨rfl, rfl, rfl, rfl, rfl⟩ rfl rfl rfl rfl rfl (by kernel_rfl) Tryd.func3 (by kernel_rfl)
    (of_decide_eq_true (by kernel_rfl)) (by unfold Func.isWrapper; first | (rw [if_pos (by decide +kernel)]; kernel_rfl) | (rw [if_neg (by decide +kernel)]; exact ⟨rfl, rfl⟩))
    (fun os started H enc _ => lifted os started H enc)
theorem proved : Rows.SinkNamesCardSaid :=
  Claim7.holds_tied_plain_at .later [] [.data, .data] true (true, "eb7a383311c01a96d1a591c92634607570df651227ec0563c4682087e04b9551") false
    over (fun _ h => by cases h) (by kernel_rfl) (fun _ h => by cases h) sinkNames_row_tie rfl ⟨rfl, rfl⟩ (by kernel_rfl) rfl
    (fun f fn hf hfn => by
      obtain rfl : f = 3 := Option.some.inj ((show Tryd.prog.funcNamed "colophon/colophonlaw06.SinkNames" = some 3 by kernel_rfl).symm.trans hf) |>.symm
      obtain rfl : fn = Tryd.f3 := (Option.some.inj (Tryd.func3.symm.trans hfn)).symm
      exact ⟨by kernel_rfl, fun j t ht => by
        rw [Tryd.params3] at ht
        simp at ht⟩)
    (by kernel_rfl)
#print axioms proved
end sinkNames
end Go.Proofs.YtphcmbdmkhmfbaaDoor
