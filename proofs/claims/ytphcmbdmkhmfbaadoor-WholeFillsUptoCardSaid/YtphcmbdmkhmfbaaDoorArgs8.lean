/- A layout among the arguments: what it reads as, and how much it is. -/
import Derived.Test.YtphcmbdmkhmfbaaDoorArgs
import Derived.Test.YtphcmbdmkhmfbaaDoorChk
namespace Go.Proofs.YtphcmbdmkhmfbaaDoor
open Go.ChangeShapes Go.WideShapes Go.ChangeAt Go.RowKit
set_option linter.unusedVariables false
set_option linter.unusedSimpArgs false
theorem cells_doc : Tryd.prog.cellsOf 47 = 5 := by kernel_rfl
theorem cells_k : Tryd.prog.cellsOf 45 = 1 := by kernel_rfl
/-- How much a layout is. -/
def bulkD : List DocV → Nat
  | [] => 0
  | d :: r => d.t.size + 6 + bulkD r
theorem bulkD_append : ∀ (L M : List DocV), bulkD (L ++ M) = bulkD L + bulkD M
  | [], M => by simp [bulkD]
  | d :: r, M => by simp only [List.cons_append, bulkD, bulkD_append r M]; omega
theorem bulk_append {H : Type} (l r : List (DataW H)) : Rows.uptoBulkAll (l ++ r) = Rows.uptoBulkAll l + Rows.uptoBulkAll r := by
  induction l with
  | nil => simp [Rows.uptoBulkAll]
  | cons x l ih => simp only [List.cons_append, Rows.uptoBulkAll, ih]; omega
theorem bulk_bound {H : Type} {l : List (DataW H)} (hk : Rows.uptoSmall H l = true) : Rows.uptoBulkAll l ≤ 1048576 := by
  simpa [Rows.uptoSmall] using hk
set_option maxHeartbeats 1000000 in
set_option maxRecDepth 100000 in
theorem open_doc {H : Type} {enc : TypeId × Value → H} {W : World} {base fuel : Nat} {sp : Nat → Bool} {hd : Bool} {cs : List Value} {x : DataW H × List MemPlace} (h : DataW.trod enc Tryd.prog W base sp hd fuel 47 cs = some x) :
    ∃ d : DocV, cs = [.int .u8 d.k, .string d.t, .int .i64 d.b, .int .i64 d.n, .bool d.e] ∧ Rows.uptoBulk x.1 = d.t.size + 6 ∧ (-9223372036854775808 ≤ d.b ∧ d.b ≤ 9223372036854775807) ∧ (-9223372036854775808 ≤ d.n ∧ d.n ≤ 9223372036854775807) := by
  obtain ⟨xs, n, _, rfl, hl, hlen, hf⟩ := DataW.trod_struct Tryd.underlying47 h
  rw [cells_doc] at hl
  match cs, hl with
  | [c0, c1, c2, c3, c4], _ =>
    match xs, hlen with
    | [y0, y1, y2, y3, y4], _ =>
      have g0 := hf 0 _ rfl; have g1 := hf 1 _ rfl; have g2 := hf 2 _ rfl; have g3 := hf 3 _ rfl; have g4 := hf 4 _ rfl
      simp [cells_1, cells_b, cells_s, cells_k] at g0 g1 g2 g3 g4
      obtain ⟨k, e0, f0, w0⟩ := DataW.trod_int Tryd.underlying45 g0
      obtain ⟨t, e1, f1, _⟩ := DataW.trod_string Tryd.underlying9 g1
      obtain ⟨b, e2, f2, w2⟩ := DataW.trod_int Tryd.underlying3 g2
      obtain ⟨m, e3, f3, w3⟩ := DataW.trod_int Tryd.underlying3 g3
      obtain ⟨v, e4, f4⟩ := DataW.trod_bool Tryd.underlying4 g4
      simp at e0 e1 e2 e3 e4
      have hk : 0 ≤ k := by
        have hm : IntKind.u8.min = 0 := by decide
        simp [Lit.wf, IntKind.wrap, hm] at w0
        omega
      have wf : ∀ z : Int, (Lit.int .i64 z).wf = true → -9223372036854775808 ≤ z ∧ z ≤ 9223372036854775807 := fun z hz => by
        have hm : IntKind.i64.min = -9223372036854775808 := by decide
        have hM : IntKind.i64.max = 9223372036854775807 := by decide
        simp [Lit.wf, hm, hM] at hz
        omega
      refine ⟨⟨k.toNat, t, b, m, v⟩, by rw [e0, e1, e2, e3, e4]; simp [Int.toNat_of_nonneg hk], ?_, wf b w2, wf m w3⟩
      have hs : t.data.toList.length = t.size := Array.length_toList
      subst f0; subst f1; subst f2; subst f3; subst f4
      simp [Rows.uptoBulk, Rows.uptoBulkAll]
      omega
theorem bulk_range {H : Type} (f : Nat → DocV) (D : Nat → DataW H) : ∀ (n : Nat), (∀ i, i < n → Rows.uptoBulk (D i) = (f i).t.size + 6) → Rows.uptoBulkAll ((List.range n).map D) = bulkD ((List.range n).map f)
  | 0, _ => rfl
  | n + 1, h => by
    rw [List.range_succ, List.map_append, List.map_append, bulk_append, bulkD_append, bulk_range f D n (fun i hi => h i (by omega))]
    simp [Rows.uptoBulkAll, bulkD, h n (by omega)]
set_option maxRecDepth 100000 in
theorem open_docs {H : Type} {enc : TypeId × Value → H} {W : World} {base b0 : Nat} {r : Reach} {sp : Nat → Bool} {hd : Bool} {v : Value} {d : DataW H} {ps : List MemPlace} (hval : Value.okWide Tryd.prog W r b0 44 v) (h : DataW.Trod enc Tryd.prog W base sp hd 44 v d ps) :
    ∃ ao cap S, v = .slice ao (List.length S) cap ∧ Docs W ao S ∧ bulkD S ≤ Rows.uptoBulk d ∧ (∀ d ∈ S, (-9223372036854775808 ≤ d.b ∧ d.b ≤ 9223372036854775807) ∧ (-9223372036854775808 ≤ d.n ∧ d.n ≤ 9223372036854775807)) := by
  obtain ⟨a, len, cap, rfl⟩ := okWide_slice Tryd.underlying44 hval
  obtain ⟨fuel, hf⟩ := h
  simp only [Value.cells] at hf
  rcases Go.Deep.open_slice Tryd.underlying44 hf with ⟨h0, _⟩ | ⟨a', len', cap', m, n, D, Pl, hcs, _, hl, _, hm, hx, hel⟩
  · simp at h0
    obtain ⟨rfl, rfl, rfl⟩ := h0
    exact ⟨none, 0, [], rfl, fun i a ha => by simp at ha, by simp [bulkD], by simp⟩
  · simp at hcs
    obtain ⟨rfl, rfl, rfl⟩ := hcs
    have hlm : len ≤ m := by rw [hm]; split <;> omega
    have each : ∀ i, i < len → ∃ q : DocV, (∀ j, j < 5 → W.cell? ((a'.add (i * 5)).add j) = [Value.int .u8 q.k, .string q.t, .int .i64 q.b, .int .i64 q.n, .bool q.e][j]?) ∧ Rows.uptoBulk (D i) = q.t.size + 6 ∧ (-9223372036854775808 ≤ q.b ∧ q.b ≤ 9223372036854775807) ∧ (-9223372036854775808 ≤ q.n ∧ q.n ≤ 9223372036854775807) := fun i hi => by
      obtain ⟨cs', h1, h2⟩ := hel i (by omega)
      obtain ⟨q, rfl, hq⟩ := open_doc h2
      rw [cells_doc] at h1
      obtain ⟨_, _, hc⟩ := World.cells?_some h1
      exact ⟨q, hc, hq⟩
    obtain ⟨f, hf'⟩ : ∃ f : Nat → DocV, ∀ i, i < len → (∀ j, j < 5 → W.cell? ((a'.add (i * 5)).add j) = [Value.int .u8 (f i).k, .string (f i).t, .int .i64 (f i).b, .int .i64 (f i).n, .bool (f i).e][j]?) ∧ Rows.uptoBulk (D i) = (f i).t.size + 6 ∧ (-9223372036854775808 ≤ (f i).b ∧ (f i).b ≤ 9223372036854775807) ∧ (-9223372036854775808 ≤ (f i).n ∧ (f i).n ≤ 9223372036854775807) :=
      ⟨fun i => if h : i < len then Classical.choose (each i h) else ⟨0, ⟨#[]⟩, 0, 0, false⟩, fun i hi => by simp only [hi, dif_pos]; exact Classical.choose_spec (each i hi)⟩
    refine ⟨some a', cap, (List.range len).map f, by simp, fun i q hq => ?_, ?_, ?_⟩
    · have hi : i < len := by have := (List.getElem?_eq_some_iff.1 hq).1; simpa using this
      have hqf : f i = q := by simpa [hi] using hq
      subst hqf
      have hsp : a'.spot = none := by
        have h0 := (hf' 0 (by omega)).1 0 (by omega)
        cases hs : a'.spot with
        | none => rfl
        | some z =>
          simp [Addr.add, World.cell?, hs] at h0
          split at h0 <;> simp at h0
      obtain ⟨b, o, s⟩ := a'
      simp only at hsp
      subst hsp
      have go : ∀ j, j < 5 → W.cell? ⟨b, o + i * 5 + j, none⟩ = W.cell? (((⟨b, o, none⟩ : Addr).add (i * 5)).add j) := fun j _ => by
        congr 1
        unfold Addr.add
        by_cases h1 : i * 5 = 0 <;> by_cases h2 : j = 0 <;> simp [h1, h2]
      have hi' := (hf' i hi).1
      exact ⟨b, o, rfl, by have := (go 0 (by omega)).trans (hi' 0 (by omega)); simpa using this, (go 1 (by omega)).trans (hi' 1 (by omega)), (go 2 (by omega)).trans (hi' 2 (by omega)), (go 3 (by omega)).trans (hi' 3 (by omega)), (go 4 (by omega)).trans (hi' 4 (by omega))⟩
    · have hb := bulk_range f D len (fun i hi => (hf' i hi).2.1)
      have hd : d = DataW.slice ((List.range len).map D) ((List.range (m - len)).map fun j => D (len + j)) := congrArg Prod.fst hx
      rw [hd]
      simp only [Rows.uptoBulk]
      omega
    · intro q hq
      obtain ⟨i, hi, rfl⟩ := List.mem_map.1 hq
      exact (hf' i (by simpa using hi)).2.2
end Go.Proofs.YtphcmbdmkhmfbaaDoor
