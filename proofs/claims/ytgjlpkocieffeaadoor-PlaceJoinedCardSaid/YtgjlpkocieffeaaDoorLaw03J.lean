/- colophonlaw03.PlaceJoined returns true, for every place and two texts (the walk). Conditions: numbers are of 64 bits; the tables of package utf8 lie as laid. -/
import Derived.Test.YtgjlpkocieffeaaDoorFullW
import Derived.Test.YtgjlpkocieffeaaDoorLaw03AJ
import Derived.Laws.Concat
namespace Go.Proofs.YtgjlpkocieffeaaDoor
open Go.RowKit Go.Lib
set_option linter.unusedVariables false
theorem whole_le (l : Bs) : wholeN l ≤ l.length := by unfold wholeN; split <;> (try split) <;> (try split) <;> omega
theorem joined_adv (a b : ByteArray) (A L C : Int) : advV (wrap64 (A + (a.extract 0 (wholeN a.data.toList)).size)) (wrap64 (L + nlAt (a.extract 0 (wholeN a.data.toList)) (a.extract 0 (wholeN a.data.toList)).size))
    (wrap64 (colI (nlAt (a.extract 0 (wholeN a.data.toList)) (a.extract 0 (wholeN a.data.toList)).size) C + tailC (a.extract 0 (wholeN a.data.toList)))) (a.extract (wholeN a.data.toList) a.size ++ b) = advV A L C (a ++ b) := by
  have hW := whole_le a.data.toList
  have hst := whole_stops a.data.toList b.data.toList
  generalize wholeN a.data.toList = W at *
  have hx : (a.extract 0 W).data.toList = a.data.toList.take W := extract0_list a W
  have hy : (a.extract W a.size ++ b).data.toList = a.data.toList.drop W ++ b.data.toList := by
    rw [ByteArray.data_append, Array.toList_append, extract_list, List.take_of_length_le (by rw [List.length_drop, size_len]; exact Nat.le_refl _)]
  have hs : (a ++ b).data.toList = (a.extract 0 W).data.toList ++ (a.extract W a.size ++ b).data.toList := by
    rw [hx, hy, ← List.append_assoc, List.take_append_drop]; simp
  have hxz : (a.extract 0 W).size = W := by rw [← size_len, hx, List.length_take]; omega
  refine adv_join (a ++ b) (a.extract 0 W) (a.extract W a.size ++ b) hs ?_ A L C
  have hf := fromAt_le (a.extract 0 W) (a.extract 0 W).size
  generalize fromAt (a.extract 0 W) (a.extract 0 W).size = o at *
  rw [hxz] at hf ⊢
  have hTl : ((a.extract 0 W).data.toList.drop o).length = W - o := by rw [List.length_drop, size_len, hxz]
  have := isB_at (a.extract W a.size ++ b).data.toList (W - o) ((a.extract 0 W).data.toList.drop o) (by omega) (fun n h1 h3 hn => by
    rw [hTl] at hn ⊢
    rw [List.drop_drop, show o + (W - o - n) = W - n by omega, hx, hy]
    exact hst n h1 h3 (by omega))
  rwa [hTl] at this
set_option maxHeartbeats 4000000 in
set_option maxRecDepth 100000 in
theorem law_Joined (A L C : Int) (a b : ByteArray) (w : World) (hT : Utfs w) (hA : wrap64 A = A) (hL : wrap64 L = L) (hC : wrap64 C = C) :
    Calls Tryd.prog 3 #[.agg #[.int .i64 A, .int .i64 L, .int .i64 C], .string a, .string b] w fun e w' => e = .returned (.bool true) ∧ Below w.heap.size w w' := by
  by_cases ha : (268435455 : Int) < a.size
  · go_enter Tryd.func3, Tryd.ntmps3
    go_wp2
    go_ret
    exact ⟨rfl, (Below.refl _ _).alloc (Nat.le_refl _) _⟩
  by_cases hb : (268435455 : Int) < b.size
  · go_enter Tryd.func3, Tryd.ntmps3
    go_wp2
    go_ret
    exact ⟨rfl, (Below.refl _ _).alloc (Nat.le_refl _) _⟩
  have cW := char_Whole a (w.alloc (.cells #[.int .i64 A, .int .i64 L, .int .i64 C] 23)) (hT.below ((Below.refl _ _).alloc (Nat.le_refl _) _)) (by omega)
  have hle := whole_le a.data.toList
  rw [size_len] at hle
  have hj := joined_adv a b A L C
  generalize wholeN a.data.toList = W at *
  have hxz : (a.extract 0 W).size < 4611686018427387904 := by simp; omega
  have hyz : (a.extract W a.size ++ b).size < 4611686018427387904 := by simp; omega
  have hsz : (a ++ b).size < 4611686018427387904 := by simp; omega
  obtain ⟨A1, L1, C1, h1⟩ : ∃ A1 L1 C1, advV A L C (a.extract 0 W) = .agg #[.int .i64 A1, .int .i64 L1, .int .i64 C1] ∧ advV A1 L1 C1 (a.extract W a.size ++ b) = advV A L C (a ++ b) := ⟨_, _, _, rfl, hj⟩
  obtain ⟨A2, L2, C2, h2⟩ := advV_shape A L C (a ++ b)
  have h0 : advV A L C ⟨#[]⟩ = .agg #[.int .i64 A, .int .i64 L, .int .i64 C] := by
    have e1 : nlAt (⟨#[]⟩ : ByteArray) (⟨#[]⟩ : ByteArray).size = 0 := rfl
    have e2 : tailC (⟨#[]⟩ : ByteArray) = 0 := by unfold tailC; exact cnt_end _ _ (Nat.zero_le _)
    have e3 : ((⟨#[]⟩ : ByteArray).size : Int) = 0 := rfl
    unfold advV
    rw [e1, e2, e3]
    simp [colI, hA, hL, hC]
  have a1 : ∀ W', Calls Tryd.prog 5 #[.agg #[.int .i64 A, .int .i64 L, .int .i64 C], .string (a.extract 0 W)] W' fun e w' => e = .returned (.agg #[.int .i64 A1, .int .i64 L1, .int .i64 C1]) ∧ Below W'.heap.size W' w' := fun W' => by
    rw [← h1.1]; exact place_Advance A L C _ W' hxz
  have a2 : ∀ W', Calls Tryd.prog 5 #[.agg #[.int .i64 A1, .int .i64 L1, .int .i64 C1], .string (a.extract W a.size ++ b)] W' fun e w' => e = .returned (.agg #[.int .i64 A2, .int .i64 L2, .int .i64 C2]) ∧ Below W'.heap.size W' w' := fun W' => by
    rw [← h2.out, ← h1.2]; exact place_Advance A1 L1 C1 _ W' hyz
  have a3 : ∀ W', Calls Tryd.prog 5 #[.agg #[.int .i64 A, .int .i64 L, .int .i64 C], .string (a ++ b)] W' fun e w' => e = .returned (.agg #[.int .i64 A2, .int .i64 L2, .int .i64 C2]) ∧ Below W'.heap.size W' w' := fun W' => by
    rw [← h2.out]; exact place_Advance A L C _ W' hsz
  have a4 : ∀ W', Calls Tryd.prog 5 #[.agg #[.int .i64 A, .int .i64 L, .int .i64 C], .string ⟨#[]⟩] W' fun e w' => e = .returned (.agg #[.int .i64 A, .int .i64 L, .int .i64 C]) ∧ Below W'.heap.size W' w' := fun W' => by
    have := place_Advance A L C ⟨#[]⟩ W' (by decide)
    rwa [h0] at this
  have hleI : (W : Int) ≤ (a.size : Int) := by omega
  have hle0 : (0 : Int) ≤ (W : Int) := by omega
  have sm1 : ¬ (9223372036854775807 < (a.extract W a.size).size + b.size) := by simp; omega
  have sm2 : ¬ (9223372036854775807 < a.size + b.size) := by omega
  have sm3 : ¬ (9223372036854775807 < a.size - W + b.size) := by omega
  clear h0 h1 h2 hj hxz hyz hsz hA hL hC
  have a1 := Lib.hid a1; have a2 := Lib.hid a2; have a3 := Lib.hid a3; have a4 := Lib.hid a4; have cW := Lib.hid cW
  go_enter Tryd.func3, Tryd.ntmps3
  go_wp2_with fail
  refine cW.out.mono ?_
  rintro e w1 ⟨rfl, h1⟩
  have hz1 := h1.size; rw [World.size_alloc] at hz1
  have bb1 : Below w.heap.size w w1 := ((Below.refl _ _).alloc (Nat.le_refl _) _).trans (h1.mono (by simp))
  have p1 := (Blk.new w #[.int .i64 A, .int .i64 L, .int .i64 C] 23).below' h1
  have cp0 := p1.cell 0
  have cp1 := p1.cell 1
  have cp2 := p1.cell 2
  simp at cp0 cp1 cp2
  go_wp2_with fail
  go_region_held3 (fun w' => w'.cell? ⟨w.heap.size, 0, none⟩ = some (.int .i64 A) ∧ w'.cell? ⟨w.heap.size, 1, none⟩ = some (.int .i64 L) ∧ w'.cell? ⟨w.heap.size, 2, none⟩ = some (.int .i64 C)) (first | exact ⟨cp0, cp1, cp2⟩ | go_keep)
    (first | (go_at_call 5; (first | with_reducible refine (a1.out _).mono ?_ | with_reducible refine (a2.out _).mono ?_ | with_reducible refine (a3.out _).mono ?_ | with_reducible refine (a4.out _).mono ?_); rintro e wn ⟨rfl, hb⟩; replace p1 := (by first | exact p1.below' hb | exact p1.drew.below' hb); replace bb1 := (by first | exact bb1.trans (hb.mono bb1.size) | exact bb1.drew.trans (hb.mono bb1.size)); replace cp0 := p1.cell 0; replace cp1 := p1.cell 1; replace cp2 := p1.cell 2; simp at cp0 cp1 cp2) | (go_at_call 6; refine (law_awake _).mono ?_; rintro e wn ⟨rfl, hb⟩; replace p1 := (by first | exact p1.below' hb | exact p1.drew.below' hb); replace bb1 := (by first | exact bb1.trans (hb.mono bb1.size) | exact bb1.drew.trans (hb.mono bb1.size)); replace cp0 := p1.cell 0; replace cp1 := p1.cell 1; replace cp2 := p1.cell 2; simp at cp0 cp1 cp2))
  all_goals go_wp2
  all_goals go_ret
  all_goals exact ⟨rfl, bb1⟩
end Go.Proofs.YtgjlpkocieffeaaDoor
