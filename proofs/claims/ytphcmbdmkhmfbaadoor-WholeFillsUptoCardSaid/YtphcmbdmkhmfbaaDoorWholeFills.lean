/- Proved: colophonlaw08.WholeFills returns true for every width, indent and words of bulk at most 2^20. No other condition. -/
import Derived.Test.YtphcmbdmkhmfbaaDoorFillsW
import Derived.Test.YtphcmbdmkhmfbaaDoorArgs8
import Derived.Test.YtphcmbdmkhmfbaaDoorArgs
import Derived.Test.YtphcmbdmkhmfbaaDoorLaid
import Derived.Test.YtphcmbdmkhmfbaaDoorPost
import Derived.Test.YtphcmbdmkhmfbaaDoorCards
import Derived.Test.YtphcmbdmkhmfbaaDoorTie
import Derived.SevenTiedAt
import Derived.Deep.DeepHandedRow
import Derived.Deep.DeepWitnessRowRef
namespace Go.Proofs.YtphcmbdmkhmfbaaDoor
open Go.RowKit Go.Lib
namespace wholeFills
open Go.ChangeShapes Go.WideShapes Go.ChangeAt Go.Joins
set_option linter.unusedVariables false
theorem own : ownKnob Tryd.prog.godebug = none := by kernel_rfl
theorem reads (os : Os) {H : Type} (enc : TypeId × Value → H) : ∃ places, DataW.whole enc Tryd.prog ((World.doorLaid Tryd.prog 400 os).forCall (fun _ _ => 0) ⟨#[], #[.int .i64 0, .int .i64 0, .slice none 0 0], []⟩).memory Tryd.f10.params.toList Rows.wholeFillsSpec.vars false (#[.int .i64 0, .int .i64 0, .slice none 0 0] : Array Value).toList 8 = some ([.lit (.int .i64 0), .lit (.int .i64 0), .nil], [], places) :=
  ⟨[], by kernel_rfl⟩
set_option maxRecDepth 100000 in
theorem lifted (os : Os) (started : os.Started) (H : Type) (enc : TypeId × Value → H) (G : Stop.Interp) :
    ReturnsInHanded {} Tryd.checked os 10 .any ((Rows.OpenSpec.upto Rows.wholeFillsSpec).preRow enc Tryd.prog Tryd.f10 Rows.wholeFillsUptoRow.domain false Rows.wholeFillsUptoRow.laid) (((Rows.OpenSpec.upto Rows.wholeFillsSpec).at G).post enc Tryd.prog Tryd.f10 false true false false) := by
  obtain ⟨places, hx⟩ := reads os enc
  refine returnsInHanded_of_row (C := Tryd.checked) (s := Rows.OpenSpec.upto Rows.wholeFillsSpec) own started (by kernel_rfl) Tryd.func10
    (witness_row_atRef (enc := enc) (C := Tryd.checked) false (World.doorLaid Tryd.prog 400 os) #[.int .i64 0, .int .i64 0, .slice none 0 0] rfl (by kernel_rfl) (by kernel_rfl) (by kernel_rfl)
      (OpenSpec.preRow_of_cond 8 hx (by kernel_rfl) (fun k hk => by cases hk; kernel_rfl) (by kernel_rfl) (laidMet_of_run' 8 (by kernel_rfl) (by kernel_rfl)))) ?_
  intro W base args ds gs before hval0 hW _ hcond _ hL _ _
  have hk := bulk_bound (hcond _ rfl)
  have hval : ∀ (j : Nat) t v, Tryd.f10.params[j]? = some t → args[j]? = some v → Value.okWide Tryd.prog W .any base t v := hval0
  have hW' := hW
  obtain ⟨p, q, hA0, hV, rfl, hfz, hnd⟩ := hW
  have hA : DataW.TrodAll enc Tryd.prog W 0 (fun _ => true) true Tryd.f10.params.toList args.toList ds p := hA0
  rw [Tryd.params10] at hA hval
  obtain ⟨v0, v1, v2, d0, d1, d2, p0, p1, p2, rfl, rfl, rfl, h0, h1, h2⟩ := trodAll_three hA
  obtain ⟨rfl, rfl⟩ := trodVars_none hV
  have hT := tabs_of_laid hL
  clear hA0
  simp only [Rows.uptoBulkAll, bulk_append] at hk
  simp only [List.append_nil] at hW' 
  have h0s := h0
  have h1s := h1
  obtain ⟨n0, rfl, _, _, hw0⟩ := open_int Tryd.underlying3 (hval 0 3 v0 rfl rfl) h0s
  obtain ⟨n1, rfl, _, _, hw1⟩ := open_int Tryd.underlying3 (hval 1 3 v1 rfl rfl) h1s
  obtain ⟨a1, c1, S1, rfl, hS1, hb1, hwf⟩ := open_raws (hval 2 53 v2 rfl rfl) h2
  have wf : ∀ z : Int, (Lit.int .i64 z).wf = true → -9223372036854775808 ≤ z ∧ z ≤ 9223372036854775807 := fun z hz => by
    have hm : IntKind.i64.min = -9223372036854775808 := by decide
    have hM : IntKind.i64.max = 9223372036854775807 := by decide
    simp [Lit.wf, hm, hM] at hz
    omega
  refine (law_fills n0 n1 a1 c1 S1 W hS1 (by omega) hwf (wf n0 hw0) (wf n1 hw1) hT (cell_lt (hT.1 0 _ rfl)) (cell_lt (hT.2 0 _ rfl))).mono fun e W' ⟨he, hg⟩ => ?_
  subst he
  have hlt := fun x hx => DataW.Whole.lt hW' (p := x) hx
  refine ⟨_, rfl, post_below (s := Rows.wholeFillsSpec) (pa := _) (pv := []) hW' hg (by simp) (fun _ _ _ => (trodAll_cons_mk (shut_bool Tryd.underlying4 _) trodAll_mk0)) (fun sp hs => (trodAll_cons_mk (trod_after (by kernel_rfl) (of_decide_eq_true (by kernel_rfl)) h0 hg (fun x hx => hlt x (by simp only [List.mem_append]; simp [hx])) sp (fun x hx => hs x (by simp only [List.mem_append]; simp [hx]))) (trodAll_cons_mk (trod_after (by kernel_rfl) (of_decide_eq_true (by kernel_rfl)) h1 hg (fun x hx => hlt x (by simp only [List.mem_append]; simp [hx])) sp (fun x hx => hs x (by simp only [List.mem_append]; simp [hx]))) (trodAll_cons_mk (trod_after (by kernel_rfl) (of_decide_eq_true (by kernel_rfl)) h2 hg (fun x hx => hlt x (by simp only [List.mem_append]; simp [hx])) sp (fun x hx => hs x (by simp only [List.mem_append]; simp [hx]))) trodAll_mk0)))) (fun _ _ => rfl) (ok_one (by kernel_rfl) rfl (okWide_bool_mk Tryd.underlying4 _))⟩

theorem over : Rows.WholeFillsUptoSaid :=
  OpenClaim.holds_of_cond 10 Tryd.f10 rfl rfl rfl rfl rfl rfl rfl ⟨rfl, rfl, rfl, rfl, rfl⟩ rfl rfl rfl rfl rfl (by kernel_rfl) Tryd.func10 (by kernel_rfl)
    (of_decide_eq_true (by kernel_rfl)) (by unfold Func.isWrapper; first | (rw [if_pos (by decide +kernel)]; kernel_rfl) | (rw [if_neg (by decide +kernel)]; exact ⟨rfl, rfl⟩))
    (fun os started H enc _ G => by rw [OpenClaim.pre_eq_preRow]; exact lifted os started H enc G)
theorem proved : Rows.WholeFillsUptoCardSaid :=
  Claim7.holds_tied_plain_at .later [] _ _ _ _
    over (fun _ h => by cases h) (by kernel_rfl) (fun _ h => by cases h) wholeFillsUpto_row_tie rfl ⟨rfl, rfl⟩ (by kernel_rfl) rfl
    (fun f fn hf hfn => by
      obtain rfl : f = 10 := Option.some.inj ((show Tryd.prog.funcNamed "colophon/colophonlaw08.WholeFills" = some 10 by kernel_rfl).symm.trans hf) |>.symm
      obtain rfl : fn = Tryd.f10 := (Option.some.inj (Tryd.func10.symm.trans hfn)).symm
      exact ⟨by kernel_rfl, fun j t ht => by
        rw [Tryd.params10] at ht
        have hm : t ∈ [3, 3, 53] := by simpa using Array.mem_of_getElem? ht
        have hall : ([3, 3, 53].all fun u => !Tryd.prog.wantsStandIn u) = true := by kernel_rfl
        exact (show Tryd.prog.wantsStandIn t = false by simpa using List.all_eq_true.1 hall t hm)⟩)
    (by kernel_rfl)
end wholeFills
end Go.Proofs.YtphcmbdmkhmfbaaDoor
