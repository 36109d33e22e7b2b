/- A script of calls in memory; law 06's add, vast and deep. -/
import Derived.Test.YtphcmbdmkhmfbaaDoorOne
import Derived.LoopTactic
namespace Go.Proofs.YtphcmbdmkhmfbaaDoor
open Go.RowKit Go.Lib

/-- A call of a script. -/
structure ActV where
  k : Int
  o : Bool
  t : ByteArray
  n : Int
/-- The slice that begins at ao holds these calls. -/
def Acts (w : World) (ao : Option Addr) (S : List ActV) : Prop := ∀ (i : Nat) (a : ActV), S[i]? = some a → ∃ b o, ao = some ⟨b, o, none⟩ ∧ w.cell? ⟨b, o + i * 4, none⟩ = some (.int .i64 a.k) ∧ w.cell? ⟨b, o + i * 4 + 1, none⟩ = some (.bool a.o) ∧ w.cell? ⟨b, o + i * 4 + 2, none⟩ = some (.string a.t) ∧ w.cell? ⟨b, o + i * 4 + 3, none⟩ = some (.int .i64 a.n)
theorem Acts.below {w w' : World} {ao : Option Addr} {S : List ActV} (h : Acts w ao S) (k : Below w.heap.size w w') : Acts w' ao S := fun i a ha => by
  obtain ⟨b, o, e, h0, h1, h2, h3⟩ := h i a ha
  have g : ∀ j v, w.cell? ⟨b, j, none⟩ = some v → w'.cell? ⟨b, j, none⟩ = some v := fun j v hv => (k.cell (p := ⟨b, j, none⟩) (cell_lt hv)).trans hv
  exact ⟨b, o, e, g _ _ h0, g _ _ h1, g _ _ h2, g _ _ h3⟩
/-- How much the texts and blanks of a script are. -/
def vs : List ActV → Nat
  | [] => 0
  | a :: r => a.t.size + clampN a.n + vs r
theorem vs_take : ∀ (S : List ActV) (i : Nat) (a : ActV), S[i]? = some a → vs (S.take (i + 1)) = vs (S.take i) + (a.t.size + clampN a.n)
  | [], i, a, h => by simp at h
  | b :: r, 0, a, h => by simp at h; subst h; simp [vs]
  | b :: r, i + 1, a, h => by
    have := vs_take r i a (by simpa using h)
    simp only [List.take_succ_cons, vs, this]; omega
theorem law_add (n k : Int) (w : World) (hn : 0 ≤ n) (hk : 0 ≤ k) : Calls Tryd.prog 42 #[.int .i64 n, .int .i64 k] w fun e w' => (∃ r : Int, e = .returned (.int .i64 r) ∧ 0 ≤ r ∧ r ≤ 33554432 ∧ (r ≤ 16777216 → r = n + k)) ∧ w' = w := by
  by_cases h1 : 16777216 < n
  · go_enter Tryd.func42, Tryd.ntmps42
    go_wp2
    go_ret
    exact ⟨⟨_, rfl, by omega, by omega, by omega⟩, rfl⟩
  · by_cases h2 : 16777216 < k
    · go_enter Tryd.func42, Tryd.ntmps42
      go_wp2
      go_ret
      exact ⟨⟨_, rfl, by omega, by omega, by omega⟩, rfl⟩
    · have hw : IntKind.i64.wrap (n + k) = n + k := IntWalk.i64_in _ (by omega)
      go_enter Tryd.func42, Tryd.ntmps42
      go_wp2
      go_ret
      exact ⟨⟨_, rfl, by omega, by omega, by omega⟩, rfl⟩
set_option maxHeartbeats 4000000 in
set_option maxRecDepth 100000 in
theorem law_vast (ao : Option Addr) (S : List ActV) (cap : Nat) (w : World) (hA : Acts w ao S) : Calls Tryd.prog 20 #[.slice ao S.length cap] w fun e w' => (e = .returned (.bool false) ∧ S.length + vs S ≤ 16777216 ∨ e = .returned (.bool true)) ∧ w' = w := by
  replace hA := Lib.hid hA
  go_enter Tryd.func20, Tryd.ntmps20
  go_wp2_with (go_at_call 42; refine (law_add _ _ _ (by omega) (by omega)).mono ?_; rintro e w' ⟨⟨N0, rfl, hN0, hN1, hN2⟩, rfl⟩; replace hN2 := Lib.hid hN2)
  go_loopw [3, 4] (fun nv iv wr => ∃ (i : Nat) (N : Int), wr = w' ∧ iv = .int .i64 i ∧ nv = .int .i64 N ∧ 0 ≤ N ∧ N ≤ 33554432 ∧ i ≤ S.length ∧ (N ≤ 16777216 → N = S.length + vs (S.take i))) (fun _ iv _ => S.length - (RowKit.intOf iv).toNat)
  case atStart => exact ⟨0, N0, rfl, rfl, rfl, hN0, hN1, by omega, fun h => by simp [vs]; have := hN2.out h; omega⟩
  case round =>
    obtain ⟨i, N, rfl, rfl, rfl, hM0, hM1, hi, hM2⟩ := hrel
    replace hM2 := Lib.hid hM2
    clear hN2
    by_cases hlt : i < S.length
    · by_cases hmost : N ≤ 16777216
      · obtain ⟨a, ha⟩ : ∃ a, S[i]? = some a := ⟨_, List.getElem?_eq_getElem hlt⟩
        obtain ⟨b, o, rfl, c0, c1, c2, c3⟩ := hA.out i a ha
        have hi1 : (i : Int) < S.length := by omega
        have hi2 : (0 : Int) ≤ i := by omega
        have wi : IntKind.i64.wrap ((i : Int) + 1) = i + 1 := by have := hM2.out hmost; exact IntWalk.i64_in _ (by omega)
        have hvs := vs_take S i a ha
        have hmeas : S.length - (RowKit.intOf (.int .i64 ((i : Int) + 1))).toNat < S.length - (RowKit.intOf (.int .i64 (i : Int))).toNat := by simp [RowKit.intOf]; omega
        replace hvs := Lib.hid hvs; replace ha := Lib.hid ha
        by_cases hn0 : 0 < a.n
        · by_cases hn1 : a.n ≤ 1048576
          · go_wp2_with fail
            refine (law_add N a.t.size _ (by omega) (by omega)).mono ?_
            rintro e w' ⟨⟨M1, rfl, hA0, hA1, hA2⟩, rfl⟩
            replace hA2 := Lib.hid hA2
            go_wp2_with fail
            refine (law_add M1 a.n _ (by omega) (by omega)).mono ?_
            rintro e w' ⟨⟨M2, rfl, hB0, hB1, hB2⟩, rfl⟩
            replace hB2 := Lib.hid hB2
            go_wp2_with fail
            refine ⟨⟨i + 1, M2, trivial, by go_num, rfl, hB0, hB1, by omega, fun h => ?_⟩, hmeas⟩
            have e1 := hM2.out hmost; have e2 := hB2.out h; have e3 := hA2.out (by omega); have e4 := hvs.out
            have e5 : clampN a.n = a.n.toNat := clampN_of ⟨by omega, hn1⟩
            omega
          · go_wp2_with fail
            refine (law_add N a.t.size _ (by omega) (by omega)).mono ?_
            rintro e w' ⟨⟨M1, rfl, hA0, hA1, hA2⟩, rfl⟩
            replace hA2 := Lib.hid hA2
            go_wp2_with fail
            refine ⟨⟨i + 1, M1, trivial, by go_num, rfl, hA0, hA1, by omega, fun h => ?_⟩, hmeas⟩
            have e1 := hM2.out hmost; have e3 := hA2.out (by omega); have e4 := hvs.out
            have e5 : clampN a.n = 0 := by unfold clampN; rw [if_neg (by omega)]
            omega
        · go_wp2_with fail
          refine (law_add N a.t.size _ (by omega) (by omega)).mono ?_
          rintro e w' ⟨⟨M1, rfl, hA0, hA1, hA2⟩, rfl⟩
          replace hA2 := Lib.hid hA2
          go_wp2_with fail
          refine ⟨⟨i + 1, M1, trivial, by go_num, rfl, hA0, hA1, by omega, fun h => ?_⟩, hmeas⟩
          have e1 := hM2.out hmost; have e3 := hA2.out (by omega); have e4 := hvs.out
          have e5 : clampN a.n = 0 := by unfold clampN; rw [if_neg (by omega)]
          omega
      · go_wp2_with fail
        go_ret
        exact ⟨.inr rfl, rfl⟩
    · have hi1 : ¬ (i : Int) < S.length := by omega
      have he : i = S.length := by omega
      by_cases hmost : N ≤ 16777216
      · have hd : decide (16777216 < N) = false := by simp; omega
        go_wp2_with fail
        go_ret
        refine ⟨.inl ⟨by simp, ?_⟩, rfl⟩
        have e1 := hM2.out hmost
        rw [he, List.take_length] at e1
        omega
      · go_wp2_with fail
        go_ret
        exact ⟨.inr rfl, rfl⟩
set_option maxHeartbeats 4000000 in
set_option maxRecDepth 100000 in
theorem law_deep (ao : Option Addr) (S : List ActV) (cap : Nat) (w : World) (hA : Acts w ao S) (hS : S.length ≤ 16777216) : Calls Tryd.prog 21 #[.slice ao S.length cap] w fun e w' => (e = .returned (.bool false) ∨ e = .returned (.bool true)) ∧ w' = w := by
  replace hA := Lib.hid hA
  go_enter Tryd.func21, Tryd.ntmps21
  go_wp2_with fail
  go_loopw [3, 4, 5] (fun nv av iv wr => ∃ (i : Nat) (N A : Int), wr = w ∧ iv = .int .i64 i ∧ nv = .int .i64 N ∧ av = .int .i64 A ∧ 0 ≤ N ∧ 0 ≤ A ∧ i ≤ S.length) (fun _ _ iv _ => S.length - (RowKit.intOf iv).toNat)
  case atStart => exact ⟨0, 0, 0, rfl, rfl, rfl, rfl, by omega, by omega, by omega⟩
  case round =>
    obtain ⟨i, N, A, rfl, rfl, rfl, rfl, hM0, hA0, hi⟩ := hrel
    by_cases hlt : i < S.length
    · by_cases hmost : N ≤ 16777216
      · obtain ⟨a, ha⟩ : ∃ a, S[i]? = some a := ⟨_, List.getElem?_eq_getElem hlt⟩
        obtain ⟨b, o, rfl, c0, c1, c2, c3⟩ := hA.out i a ha
        have hi1 : (i : Int) < S.length := by omega
        have hi2 : (0 : Int) ≤ i := by omega
        have wi : IntKind.i64.wrap ((i : Int) + 1) = i + 1 := IntWalk.i64_in _ (by omega)
        have hmeas : S.length - (RowKit.intOf (.int .i64 ((i : Int) + 1))).toNat < S.length - (RowKit.intOf (.int .i64 (i : Int))).toNat := by simp [RowKit.intOf]; omega
        replace ha := Lib.hid ha
        by_cases hk : a.k = 3
        · by_cases hn0 : 0 < a.n
          · by_cases hn1 : a.n ≤ 1048576
            · go_wp2_with fail
              refine (law_add N a.n _ (by omega) (by omega)).mono ?_
              rintro e w' ⟨⟨M1, rfl, hB0, _, _⟩, rfl⟩
              go_wp2_with fail
              exact ⟨⟨i + 1, M1, a.n, trivial, by go_num, rfl, rfl, hB0, by omega, by omega⟩, hmeas⟩
            · go_wp2_with fail
              refine (law_add N A _ (by omega) (by omega)).mono ?_
              rintro e w' ⟨⟨M1, rfl, hB0, _, _⟩, rfl⟩
              go_wp2_with fail
              exact ⟨⟨i + 1, M1, A, trivial, by go_num, rfl, rfl, hB0, by omega, by omega⟩, hmeas⟩
          · go_wp2_with fail
            refine (law_add N A _ (by omega) (by omega)).mono ?_
            rintro e w' ⟨⟨M1, rfl, hB0, _, _⟩, rfl⟩
            go_wp2_with fail
            exact ⟨⟨i + 1, M1, A, trivial, by go_num, rfl, rfl, hB0, by omega, by omega⟩, hmeas⟩
        · go_wp2_with fail
          refine (law_add N A _ (by omega) (by omega)).mono ?_
          rintro e w' ⟨⟨M1, rfl, hB0, _, _⟩, rfl⟩
          go_wp2_with fail
          exact ⟨⟨i + 1, M1, A, trivial, by go_num, rfl, rfl, hB0, by omega, by omega⟩, hmeas⟩
      · go_wp2_with fail
        go_ret
        exact ⟨.inr rfl, rfl⟩
    · have hi1 : ¬ (i : Int) < S.length := by omega
      by_cases hmost : N ≤ 16777216
      · have hd : decide (16777216 < N) = false := by simp; omega
        go_wp2_with fail
        go_ret
        exact ⟨.inl (by simp), rfl⟩
      · go_wp2_with fail
        go_ret
        exact ⟨.inr rfl, rfl⟩
end Go.Proofs.YtphcmbdmkhmfbaaDoor
