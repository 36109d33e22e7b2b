/- The document's examples of layer 8 (awake). -/
import Derived.Test.YtphcmbdmkhmfbaaDoorFine
namespace Go.Proofs.YtphcmbdmkhmfbaaDoor
open Go.RowKit Go.Lib
set_option linter.unusedVariables false
set_option linter.unusedSimpArgs false
def DocV.cells (d : DocV) : List Value := [.int .u8 d.k, .string d.t, .int .i64 d.b, .int .i64 d.n, .bool d.e]
theorem flat_at : ∀ (L : List DocV) (i : Nat) (d : DocV) (j : Nat) (v : Value), L[i]? = some d → d.cells[j]? = some v → (L.flatMap DocV.cells)[i * 5 + j]? = some v
  | [], i, d, j, v, h, _ => by simp at h
  | c :: r, 0, d, j, v, h, hv => by
    obtain rfl : c = d := by simpa using h
    have : j < c.cells.length := (List.getElem?_eq_some_iff.1 hv).1
    rw [List.flatMap_cons, List.getElem?_append_left (by omega)]
    simpa using hv
  | c :: r, i + 1, d, j, v, h, hv => by
    rw [List.flatMap_cons, List.getElem?_append_right (by simp [DocV.cells]; omega)]
    have := flat_at r i d j v (by simpa using h) hv
    have e : (i + 1) * 5 + j - c.cells.length = i * 5 + j := by simp [DocV.cells]; omega
    rw [e]; exact this
theorem docs_lit {w : World} {g : Nat} {cs : Array Value} {t : TypeId} (h : Blk w g cs t) (L : List DocV) (hc : cs = (L.flatMap DocV.cells).toArray) : Docs w (some ⟨g, 0, none⟩) L := fun i d hd => by
  subst hc
  have k : ∀ j v, d.cells[j]? = some v → w.cell? ⟨g, 0 + i * 5 + j, none⟩ = some v := fun j v hv => by
    rw [h.cell, Nat.zero_add]
    simpa using flat_at L i d j v hd hv
  exact ⟨g, 0, rfl, k 0 _ rfl, k 1 _ rfl, k 2 _ rfl, k 3 _ rfl, k 4 _ rfl⟩
theorem l8_text (s : ByteArray) (w : World) : Calls Tryd.prog 35 #[.string s] w fun e w' => e = .returned (.agg #[.int .u8 1, .string s, .int .i64 0, .int .i64 0, .bool false]) ∧ Below w.heap.size w w' := by
  go_enter Tryd.func35, Tryd.ntmps35
  go_wp2_with fail
  exact bodyPost_ret (v := .agg #[.int .u8 1, .string s, .int .i64 0, .int .i64 0, .bool false]) (by simp [results, Tryd.results35, go_sem]) rfl ⟨rfl, by repeat (first | exact Below.refl _ _ | refine Below.setCell ?_ (by simp) _ | refine Below.alloc ?_ (by simp) _)⟩
theorem l8_gap (n : Int) (w : World) : Calls Tryd.prog 34 #[.int .i64 n] w fun e w' => e = .returned (.agg #[.int .u8 3, .string ⟨#[]⟩, .int .i64 n, .int .i64 0, .bool false]) ∧ Below w.heap.size w w' := by
  go_enter Tryd.func34, Tryd.ntmps34
  go_wp2_with fail
  exact bodyPost_ret (v := .agg #[.int .u8 3, .string ⟨#[]⟩, .int .i64 n, .int .i64 0, .bool false]) (by simp [results, Tryd.results34, go_sem]) rfl ⟨rfl, by repeat (first | exact Below.refl _ _ | refine Below.setCell ?_ (by simp) _ | refine Below.alloc ?_ (by simp) _)⟩
set_option maxHeartbeats 4000000 in
set_option maxRecDepth 100000 in
theorem awake8 (w : World) (hT : Tabs w) (hg1 : 0 < w.heap.size) (hg2 : 1 < w.heap.size) : Calls Tryd.prog 27 #[] w fun e w' => e = .returned (.bool true) ∧ Below w.heap.size w w' := by
  have pr : ∀ (W : Int) (L : List DocV) (V : Value), prRes W L = V → L.length ≤ 2097152 → cost L ≤ 17179869184 → ∀ (wk : World) (ao : Option Addr), Below w.heap.size w wk → Docs wk ao L → ∀ cap, Calls Tryd.prog 28 #[.int .i64 W, .slice ao L.length cap] wk fun e w' => e = .returned V ∧ Below w.heap.size w w' := fun W L V hV h1 h2 wk ao hb hd cap => by
    have hz := hb.size
    refine (whole_Print W ao cap L wk hd h1 h2 (hT.below hb) (by omega) (by omega)).mono ?_
    rintro e w' ⟨rfl, b⟩
    exact ⟨by rw [hV], hb.trans (b.mono hz)⟩
  have hb : Below w.heap.size w w := Below.refl _ _
  replace hb := Lib.hid hb; replace pr := Lib.hid pr
  replace hT := Lib.hid hT
  go_enter Tryd.func27, Tryd.ntmps27
  go_wp2_with fail
  refine (l8_text _ _).mono ?_; rintro e w1 ⟨rfl, b⟩; replace hb := Lib.hid (hb.out.trans (b.mono hb.out.size)); clear b
  go_wp2_with fail
  refine (l8_gap _ _).mono ?_; rintro e w2 ⟨rfl, b⟩; replace hb := Lib.hid (hb.out.trans (b.mono hb.out.size)); clear b
  go_wp2_with fail
  refine (l8_text _ _).mono ?_; rintro e w3 ⟨rfl, b⟩; replace hb := Lib.hid (hb.out.trans (b.mono hb.out.size)); clear b
  go_wp2_with fail
  refine (l8_gap _ _).mono ?_; rintro e w4 ⟨rfl, b⟩; replace hb := Lib.hid (hb.out.trans (b.mono hb.out.size)); clear b
  go_wp2_with fail
  refine (l8_text _ _).mono ?_; rintro e w5 ⟨rfl, b⟩; replace hb := Lib.hid (hb.out.trans (b.mono hb.out.size)); clear b
  go_wp2_with fail
  refine (pr.out 10 ex1 _ res1 (by decide) (by decide) _ _ (hb.out.alloc hb.out.size _) (docs_lit (Blk.new _ _ _) ex1 rfl) 7).mono ?_
  rintro e w6 ⟨rfl, b⟩; replace hb := Lib.hid b; clear b
  go_wp2_with fail
  refine (l8_text _ _).mono ?_; rintro e w1 ⟨rfl, b⟩; replace hb := Lib.hid (hb.out.trans (b.mono hb.out.size)); clear b
  go_wp2_with fail
  refine (l8_gap _ _).mono ?_; rintro e w2 ⟨rfl, b⟩; replace hb := Lib.hid (hb.out.trans (b.mono hb.out.size)); clear b
  go_wp2_with fail
  refine (l8_text _ _).mono ?_; rintro e w3 ⟨rfl, b⟩; replace hb := Lib.hid (hb.out.trans (b.mono hb.out.size)); clear b
  go_wp2_with fail
  refine (l8_gap _ _).mono ?_; rintro e w4 ⟨rfl, b⟩; replace hb := Lib.hid (hb.out.trans (b.mono hb.out.size)); clear b
  go_wp2_with fail
  refine (l8_text _ _).mono ?_; rintro e w5 ⟨rfl, b⟩; replace hb := Lib.hid (hb.out.trans (b.mono hb.out.size)); clear b
  go_wp2_with fail
  refine (pr.out 10 ex2 _ res2 (by decide) (by decide) _ _ (hb.out.alloc hb.out.size _) (docs_lit (Blk.new _ _ _) ex2 rfl) 7).mono ?_
  rintro e w6 ⟨rfl, b⟩; replace hb := Lib.hid b; clear b
  go_wp2_with fail
  refine (l8_text _ _).mono ?_; rintro e w1 ⟨rfl, b⟩; replace hb := Lib.hid (hb.out.trans (b.mono hb.out.size)); clear b
  go_wp2_with fail
  refine (l8_text _ _).mono ?_; rintro e w2 ⟨rfl, b⟩; replace hb := Lib.hid (hb.out.trans (b.mono hb.out.size)); clear b
  go_wp2_with fail
  refine (pr.out 10 ex3 _ res3 (by decide) (by decide) _ _ (hb.out.alloc hb.out.size _) (docs_lit (Blk.new _ _ _) ex3 rfl) 5).mono ?_
  rintro e w6 ⟨rfl, b⟩; replace hb := Lib.hid b; clear b
  go_wp2_with fail
  refine (pr.out 0 [] _ res4 (by decide) (by decide) _ none hb.out (fun i d h => by simp at h) 0).mono ?_
  rintro e w6 ⟨rfl, b⟩; replace hb := Lib.hid b; clear b
  go_wp2_with fail
  refine (pr.out 10 [kD 7] _ res5 (by decide) (by decide) _ _ (hb.out.alloc hb.out.size _) (docs_lit (Blk.new _ _ _) [kD 7] rfl) 1).mono ?_
  rintro e w6 ⟨rfl, b⟩; replace hb := Lib.hid b; clear b
  go_wp2_with fail
  go_ret
  exact ⟨rfl, hb.out⟩
end Go.Proofs.YtphcmbdmkhmfbaaDoor
