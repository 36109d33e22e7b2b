/- Proved: colophonlaw03.PlaceJoined returns true for every place and two texts. No condition. -/
import Derived.Test.YtgjlpkocieffeaaDoorLaw03J
import Derived.Test.YtgjlpkocieffeaaDoorLaidU
import Derived.Test.YtgjlpkocieffeaaDoorKeep
import Derived.Test.YtgjlpkocieffeaaDoorPost
import Derived.Test.YtgjlpkocieffeaaDoorCards
import Derived.Test.YtgjlpkocieffeaaDoorTie
import Derived.SevenTiedAt
namespace Go.Proofs.YtgjlpkocieffeaaDoor
open Go.RowKit Go.Lib
namespace placeJoined
open Go.ChangeShapes Go.WideShapes Go.ChangeAt
open Go.ChangeMaps (open_string shut_string)
set_option linter.unusedVariables false

theorem own : ownKnob Tryd.prog.godebug = none := by kernel_rfl
theorem cells_place : Tryd.prog.cellsOf 23 = 3 := by kernel_rfl
set_option maxRecDepth 100000 in
theorem lifted (os : Os) (started : os.Started) (H : Type) (enc : TypeId × Value → H) :
    ReturnsInHanded {} Tryd.checked os 3 .any (fun w args => (Rows.placeJoinedSpec.pre enc Tryd.prog Tryd.f3 [] false w args ∧ laidMetH Tryd.prog laidV w) ∧ sizedMet enc Tryd.prog Tryd.f3 (OpenSpec.ofChange Rows.placeJoinedSpec) false w args)
      (Rows.placeJoinedSpec.post enc Tryd.prog Tryd.f3 false true false false) := by
  refine returnsInHanded_of_change_and (C := Tryd.checked) (X := fun w _ => laidMetH Tryd.prog laidV w) (fun _ _ _ hh h => h.of_heap hh) own started (by kernel_rfl) Tryd.func3
    (ChangeSpec.witness_shaped (enc := enc) (C := Tryd.checked) (os := os) (X := fun w _ => laidMetH Tryd.prog laidV w) false (World.laidAll Tryd.prog os laidV) #[.agg #[.int .i64 0, .int .i64 0, .int .i64 0], .string ByteArray.empty, .string ByteArray.empty] 8 (World.laidAll_os _ _ _) (World.shaped_of_ZipB (by kernel_rfl) (by kernel_rfl)) (by kernel_rfl) (by kernel_rfl) (by kernel_rfl) (laid_met os _)) ?_
  intro W base args ds gs before hval0 hW _ _ hL _
  have hval : ∀ (j : Nat) t v, Tryd.f3.params[j]? = some t → args[j]? = some v → Value.okWide Tryd.prog W .any base t v := hval0
  have hW' := hW
  obtain ⟨p, q, hA0, hV, rfl, hfz, hnd⟩ := hW
  have hA : DataW.TrodAll enc Tryd.prog W 0 (fun _ => true) true Tryd.f3.params.toList args.toList ds p := hA0
  rw [Tryd.params3] at hA hval
  obtain ⟨v0, v1, v2, d0, d1, d2, p0, p1, p2, rfl, rfl, rfl, h0, h1, h2⟩ := trodAll_three hA
  obtain ⟨rfl, rfl⟩ := trodVars_none hV
  have hT := utfs_of_laid hL
  clear hA0
  simp only [List.append_nil] at hW' 
  obtain ⟨pa0, pl0, pc0, rfl, wa0, wl0, wc0⟩ : ∃ a l c : Int, v0 = .agg #[.int .i64 a, .int .i64 l, .int .i64 c] ∧ (Lit.int .i64 a).wf = true ∧ (Lit.int .i64 l).wf = true ∧ (Lit.int .i64 c).wf = true := by
    obtain ⟨c0, c1, c2, y0, y1, y2, m, e0, _, _, hy0, hy1, hy2⟩ := Go.Joins.open_agg3 Tryd.underlying23 (by kernel_rfl) cells_place (hval 0 23 v0 rfl rfl) h0
    obtain ⟨a, e1, _, wa⟩ := DataW.trod_int Tryd.underlying3 hy0
    obtain ⟨l, e2, _, wl⟩ := DataW.trod_int Tryd.underlying3 hy1
    obtain ⟨c, e3, _, wc⟩ := DataW.trod_int Tryd.underlying3 hy2
    simp at e1 e2 e3
    subst e1 e2 e3
    exact ⟨a, l, c, e0, wa, wl, wc⟩
  obtain ⟨s1, rfl⟩ : ∃ s, v1 = .string s := by
    obtain ⟨a, e1, _⟩ := open_string Tryd.underlying9 (hval 1 9 v1 rfl rfl) h1
    exact ⟨a, e1⟩
  obtain ⟨s2, rfl⟩ : ∃ s, v2 = .string s := by
    obtain ⟨a, e1, _⟩ := open_string Tryd.underlying9 (hval 2 9 v2 rfl rfl) h2
    exact ⟨a, e1⟩
  refine ((law_Joined pa0 pl0 pc0 s1 s2 W hT (wrap_wf wa0) (wrap_wf wl0) (wrap_wf wc0))).mono fun e W' ⟨he, hg⟩ => ?_
  subst he
  have hlt := fun x hx => DataW.Whole.lt hW' (p := x) hx
  refine ⟨_, rfl, post_below (pa := _) (pv := []) hW' hg (by simp) (fun _ _ _ => (trodAll_cons_mk (shut_bool Tryd.underlying4 _) trodAll_mk0)) (fun sp hs => (trodAll_cons_mk (trod_after (by kernel_rfl) (of_decide_eq_true (by kernel_rfl)) h0 hg (fun x hx => hlt x (by simp only [List.mem_append]; simp [hx])) sp (fun x hx => hs x (by simp only [List.mem_append]; simp [hx]))) (trodAll_cons_mk (trod_after (by kernel_rfl) (of_decide_eq_true (by kernel_rfl)) h1 hg (fun x hx => hlt x (by simp only [List.mem_append]; simp [hx])) sp (fun x hx => hs x (by simp only [List.mem_append]; simp [hx]))) (trodAll_cons_mk (trod_after (by kernel_rfl) (of_decide_eq_true (by kernel_rfl)) h2 hg (fun x hx => hlt x (by simp only [List.mem_append]; simp [hx])) sp (fun x hx => hs x (by simp only [List.mem_append]; simp [hx]))) trodAll_mk0)))) (fun _ _ => rfl) (ok_one (by kernel_rfl) rfl (okWide_bool_mk Tryd.underlying4 _))⟩

theorem over : Rows.PlaceJoinedSaid :=
  OpenClaim.holds_of_wide 3 Tryd.f3 rfl rfl rfl rfl rfl rfl rfl ⟨rfl, rfl, rfl, rfl, rfl⟩ rfl rfl rfl rfl rfl (by kernel_rfl) Tryd.func3 (by kernel_rfl)
    (of_decide_eq_true (by kernel_rfl)) (by unfold Func.isWrapper; first | (rw [if_pos (by decide +kernel)]; kernel_rfl) | (rw [if_neg (by decide +kernel)]; exact ⟨rfl, rfl⟩))
    (fun os started H enc _ => lifted os started H enc)
theorem proved : Rows.PlaceJoinedCardSaid :=
  Claim7.holds_tied_plain_at .later [] [.data, .pinned] true (true, "911df5f990180e0f0f35b621785da1a91e3c94e6744ac82041a4b59d84dde484") false
    over (fun _ h => by cases h) (by kernel_rfl) (fun _ h => by cases h) placeJoined_row_tie rfl ⟨rfl, rfl⟩ (by kernel_rfl) rfl
    (fun f fn hf hfn => by
      obtain rfl : f = 3 := Option.some.inj ((show Tryd.prog.funcNamed "colophon/colophonlaw03.PlaceJoined" = some 3 by kernel_rfl).symm.trans hf) |>.symm
      obtain rfl : fn = Tryd.f3 := (Option.some.inj (Tryd.func3.symm.trans hfn)).symm
      exact ⟨by kernel_rfl, fun j t ht => by
        rw [Tryd.params3] at ht
        have hm : t ∈ [23, 9, 9] := by simpa using Array.mem_of_getElem? ht
        have hall : ([23, 9, 9].all fun u => !Tryd.prog.wantsStandIn u) = true := by kernel_rfl
        exact (show Tryd.prog.wantsStandIn t = false by simpa using List.all_eq_true.1 hall t hm)⟩)
    (by kernel_rfl)
end placeJoined
end Go.Proofs.YtgjlpkocieffeaaDoor
