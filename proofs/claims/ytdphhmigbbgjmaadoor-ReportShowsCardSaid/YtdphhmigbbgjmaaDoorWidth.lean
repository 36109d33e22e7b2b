import Derived.Test.YtdphhmigbbgjmaaDoorProg
import Derived.Test.YtdphhmigbbgjmaaDoorM1
import Derived.Deep.MidRow
import Derived.Deep.QuietTactic
import Derived.BigQuiet
namespace Go.Proofs.YtdphhmigbbgjmaaDoor
open Go.RowKit Go.Lib
def dblL : List Int := [4352, 4447, 11904, 12350, 12353, 42191, 44032, 55203, 63744, 64255, 65072, 65135, 65280, 65376, 65504, 65510, 127744, 128591, 129280, 129535, 131072, 262141]
def nonL : List Int := [768, 879, 8203, 8207, 8400, 8447, 65024, 65039, 65056, 65071]
/-- The width tables lie as the program's text lays them. -/
def Tabs (w : World) : Prop := w.rangeAt 5 0 (dblL.map (Value.int .i64)) ∧ w.rangeAt 6 0 (nonL.map (Value.int .i64))
def wPairs (p : Int) : List Int → Bool
  | a :: b :: r => (decide (a ≤ p) && decide (p ≤ b)) || wPairs p r
  | _ => false
def widV (p : Int) : Int := if wPairs p dblL then 2 else if wPairs p nonL then 0 else 1
theorem Tabs.below {w w' : World} (h : Tabs w) (hb : Below w.heap.size w w') : Tabs w' := by
  have hk : ∀ (b o : Nat) (v : Value), w.cell? ⟨b, o, none⟩ = some v → w'.cell? ⟨b, o, none⟩ = some v := fun b o v hc => by
    have hlt : b < w.heap.size := by
      unfold World.cell? at hc
      rcases Nat.lt_or_ge b w.heap.size with h | h
      · exact h
      · simp [Array.getElem?_eq_none h] at hc
    exact (hb.cell (p := ⟨b, o, none⟩) hlt).trans hc
  exact ⟨fun j v hj => hk _ _ _ (h.1 j v hj), fun j v hj => hk _ _ _ (h.2 j v hj)⟩
theorem idx2 (ty : TypeId) (n : Nat) (cs : Array Value) (i : Nat) (hu : Tryd.prog.underlying ty = some (.array n 192)) (hi : i < n) (w : World) :
    (Instr.index ty (.agg cs) (.int .i64 i)).run Tryd.prog w = .ok (.agg (cs.extract (i * 2) (i * 2 + 2))) w := by
  simp [Instr.index, run_underlying hu, asIntOf, hi, part, Tryd.isAgg192, Tryd.sizeOf192, go_sem]
def dblA : Array Value := #[.int .i64 4352, .int .i64 4447, .int .i64 11904, .int .i64 12350, .int .i64 12353, .int .i64 42191, .int .i64 44032, .int .i64 55203, .int .i64 63744, .int .i64 64255, .int .i64 65072, .int .i64 65135, .int .i64 65280, .int .i64 65376, .int .i64 65504, .int .i64 65510, .int .i64 127744, .int .i64 128591, .int .i64 129280, .int .i64 129535, .int .i64 131072, .int .i64 262141]
def nonA : Array Value := #[.int .i64 768, .int .i64 879, .int .i64 8203, .int .i64 8207, .int .i64 8400, .int .i64 8447, .int .i64 65024, .int .i64 65039, .int .i64 65056, .int .i64 65071]
theorem wPairs_append (p : Int) : ∀ (n : Nat) (l m : List Int), l.length = 2 * n → wPairs p (l ++ m) = (wPairs p l || wPairs p m)
  | 0, l, m, h => by have : l = [] := List.length_eq_zero_iff.1 (by omega); subst this; simp [wPairs]
  | n + 1, a :: b :: r, m, h => by
    have := wPairs_append p n r m (by simpa using (by simpa using h : r.length + 1 + 1 = 2 * (n + 1)) |> fun h => by omega)
    simp [wPairs, this, Bool.or_assoc]
  | n + 1, [a], m, h => by simp at h; omega
  | n + 1, [], m, h => by simp at h
set_option maxHeartbeats 4000000 in
set_option maxRecDepth 100000 in
theorem width_Of (p : Int) (w : World) (hT : Tabs w) :
    Calls Tryd.prog 111 #[.int .i64 p] w fun e w' => e = .returned (.int .i64 (widV p)) ∧ Below w.heap.size w w' := by
  go_enter Tryd.func111, Tryd.ntmps111
  go_wp2_with (refine wpList_load_mid rfl 193 _ rfl 5 0 rfl (dblL.map (Value.int .i64)) _ hT.1 Tryd.underlying193 rfl (by kernel_rfl) ?_)
  rw [show (List.map (Value.int IntKind.i64) dblL).toArray = dblA from rfl]
  have xdbl0 : ∀ w, (Instr.index 193 (.agg dblA) (.int .i64 0)).run Tryd.prog w = .ok (.agg #[.int .i64 4352, .int .i64 4447]) w := idx2 193 11 dblA 0 Tryd.underlying193 (by omega)
  have xdbl1 : ∀ w, (Instr.index 193 (.agg dblA) (.int .i64 1)).run Tryd.prog w = .ok (.agg #[.int .i64 11904, .int .i64 12350]) w := idx2 193 11 dblA 1 Tryd.underlying193 (by omega)
  have xdbl2 : ∀ w, (Instr.index 193 (.agg dblA) (.int .i64 2)).run Tryd.prog w = .ok (.agg #[.int .i64 12353, .int .i64 42191]) w := idx2 193 11 dblA 2 Tryd.underlying193 (by omega)
  have xdbl3 : ∀ w, (Instr.index 193 (.agg dblA) (.int .i64 3)).run Tryd.prog w = .ok (.agg #[.int .i64 44032, .int .i64 55203]) w := idx2 193 11 dblA 3 Tryd.underlying193 (by omega)
  have xdbl4 : ∀ w, (Instr.index 193 (.agg dblA) (.int .i64 4)).run Tryd.prog w = .ok (.agg #[.int .i64 63744, .int .i64 64255]) w := idx2 193 11 dblA 4 Tryd.underlying193 (by omega)
  have xdbl5 : ∀ w, (Instr.index 193 (.agg dblA) (.int .i64 5)).run Tryd.prog w = .ok (.agg #[.int .i64 65072, .int .i64 65135]) w := idx2 193 11 dblA 5 Tryd.underlying193 (by omega)
  have xdbl6 : ∀ w, (Instr.index 193 (.agg dblA) (.int .i64 6)).run Tryd.prog w = .ok (.agg #[.int .i64 65280, .int .i64 65376]) w := idx2 193 11 dblA 6 Tryd.underlying193 (by omega)
  have xdbl7 : ∀ w, (Instr.index 193 (.agg dblA) (.int .i64 7)).run Tryd.prog w = .ok (.agg #[.int .i64 65504, .int .i64 65510]) w := idx2 193 11 dblA 7 Tryd.underlying193 (by omega)
  have xdbl8 : ∀ w, (Instr.index 193 (.agg dblA) (.int .i64 8)).run Tryd.prog w = .ok (.agg #[.int .i64 127744, .int .i64 128591]) w := idx2 193 11 dblA 8 Tryd.underlying193 (by omega)
  have xdbl9 : ∀ w, (Instr.index 193 (.agg dblA) (.int .i64 9)).run Tryd.prog w = .ok (.agg #[.int .i64 129280, .int .i64 129535]) w := idx2 193 11 dblA 9 Tryd.underlying193 (by omega)
  have xdbl10 : ∀ w, (Instr.index 193 (.agg dblA) (.int .i64 10)).run Tryd.prog w = .ok (.agg #[.int .i64 131072, .int .i64 262141]) w := idx2 193 11 dblA 10 Tryd.underlying193 (by omega)
  go_loopw [8] (fun iv W => ∃ i : Nat, iv = .int .i64 i ∧ i ≤ 11 ∧ wPairs p (dblL.take (2 * i)) = false ∧ Below w.heap.size w W) (fun iv _ => 11 - (RowKit.intOf iv).toNat)
  case atStart => exact ⟨0, rfl, by omega, rfl, Below.refl _ _⟩
  case round =>
    obtain ⟨i, rfl, hi, hno, hbb⟩ := hrel
    have hc : i = 0 ∨ i = 1 ∨ i = 2 ∨ i = 3 ∨ i = 4 ∨ i = 5 ∨ i = 6 ∨ i = 7 ∨ i = 8 ∨ i = 9 ∨ i = 10 ∨ i = 11 := by omega
    rcases hc with rfl | rfl | rfl | rfl | rfl | rfl | rfl | rfl | rfl | rfl | rfl | rfl
    · by_cases h1 : (4352 : Int) ≤ p
      · by_cases h2 : p ≤ 4447
        · go_wp2
          go_ret
          exact ⟨by rw [show widV p = 2 from by simp [widV, wPairs, dblL, h1, h2]]; rfl, hbb.alloc hbb.size _⟩
        · go_wp2
          go_roundw
          case rel => exact ⟨1, rfl, by omega, by simp [wPairs, dblL] at hno ⊢; omega, hbb.alloc hbb.size _⟩
          case measure => simp [RowKit.intOf]
      · go_wp2
        go_roundw
        case rel => exact ⟨1, rfl, by omega, by simp [wPairs, dblL] at hno ⊢; omega, hbb.alloc hbb.size _⟩
        case measure => simp [RowKit.intOf]
    · by_cases h1 : (11904 : Int) ≤ p
      · by_cases h2 : p ≤ 12350
        · go_wp2
          go_ret
          exact ⟨by rw [show widV p = 2 from by simp [widV, wPairs, dblL, h1, h2]]; rfl, hbb.alloc hbb.size _⟩
        · go_wp2
          go_roundw
          case rel => exact ⟨2, rfl, by omega, by simp [wPairs, dblL] at hno ⊢; omega, hbb.alloc hbb.size _⟩
          case measure => simp [RowKit.intOf]
      · go_wp2
        go_roundw
        case rel => exact ⟨2, rfl, by omega, by simp [wPairs, dblL] at hno ⊢; omega, hbb.alloc hbb.size _⟩
        case measure => simp [RowKit.intOf]
    · by_cases h1 : (12353 : Int) ≤ p
      · by_cases h2 : p ≤ 42191
        · go_wp2
          go_ret
          exact ⟨by rw [show widV p = 2 from by simp [widV, wPairs, dblL, h1, h2]]; rfl, hbb.alloc hbb.size _⟩
        · go_wp2
          go_roundw
          case rel => exact ⟨3, rfl, by omega, by simp [wPairs, dblL] at hno ⊢; omega, hbb.alloc hbb.size _⟩
          case measure => simp [RowKit.intOf]
      · go_wp2
        go_roundw
        case rel => exact ⟨3, rfl, by omega, by simp [wPairs, dblL] at hno ⊢; omega, hbb.alloc hbb.size _⟩
        case measure => simp [RowKit.intOf]
    · by_cases h1 : (44032 : Int) ≤ p
      · by_cases h2 : p ≤ 55203
        · go_wp2
          go_ret
          exact ⟨by rw [show widV p = 2 from by simp [widV, wPairs, dblL, h1, h2]]; rfl, hbb.alloc hbb.size _⟩
        · go_wp2
          go_roundw
          case rel => exact ⟨4, rfl, by omega, by simp [wPairs, dblL] at hno ⊢; omega, hbb.alloc hbb.size _⟩
          case measure => simp [RowKit.intOf]
      · go_wp2
        go_roundw
        case rel => exact ⟨4, rfl, by omega, by simp [wPairs, dblL] at hno ⊢; omega, hbb.alloc hbb.size _⟩
        case measure => simp [RowKit.intOf]
    · by_cases h1 : (63744 : Int) ≤ p
      · by_cases h2 : p ≤ 64255
        · go_wp2
          go_ret
          exact ⟨by rw [show widV p = 2 from by simp [widV, wPairs, dblL, h1, h2]]; rfl, hbb.alloc hbb.size _⟩
        · go_wp2
          go_roundw
          case rel => exact ⟨5, rfl, by omega, by simp [wPairs, dblL] at hno ⊢; omega, hbb.alloc hbb.size _⟩
          case measure => simp [RowKit.intOf]
      · go_wp2
        go_roundw
        case rel => exact ⟨5, rfl, by omega, by simp [wPairs, dblL] at hno ⊢; omega, hbb.alloc hbb.size _⟩
        case measure => simp [RowKit.intOf]
    · by_cases h1 : (65072 : Int) ≤ p
      · by_cases h2 : p ≤ 65135
        · go_wp2
          go_ret
          exact ⟨by rw [show widV p = 2 from by simp [widV, wPairs, dblL, h1, h2]]; rfl, hbb.alloc hbb.size _⟩
        · go_wp2
          go_roundw
          case rel => exact ⟨6, rfl, by omega, by simp [wPairs, dblL] at hno ⊢; omega, hbb.alloc hbb.size _⟩
          case measure => simp [RowKit.intOf]
      · go_wp2
        go_roundw
        case rel => exact ⟨6, rfl, by omega, by simp [wPairs, dblL] at hno ⊢; omega, hbb.alloc hbb.size _⟩
        case measure => simp [RowKit.intOf]
    · by_cases h1 : (65280 : Int) ≤ p
      · by_cases h2 : p ≤ 65376
        · go_wp2
          go_ret
          exact ⟨by rw [show widV p = 2 from by simp [widV, wPairs, dblL, h1, h2]]; rfl, hbb.alloc hbb.size _⟩
        · go_wp2
          go_roundw
          case rel => exact ⟨7, rfl, by omega, by simp [wPairs, dblL] at hno ⊢; omega, hbb.alloc hbb.size _⟩
          case measure => simp [RowKit.intOf]
      · go_wp2
        go_roundw
        case rel => exact ⟨7, rfl, by omega, by simp [wPairs, dblL] at hno ⊢; omega, hbb.alloc hbb.size _⟩
        case measure => simp [RowKit.intOf]
    · by_cases h1 : (65504 : Int) ≤ p
      · by_cases h2 : p ≤ 65510
        · go_wp2
          go_ret
          exact ⟨by rw [show widV p = 2 from by simp [widV, wPairs, dblL, h1, h2]]; rfl, hbb.alloc hbb.size _⟩
        · go_wp2
          go_roundw
          case rel => exact ⟨8, rfl, by omega, by simp [wPairs, dblL] at hno ⊢; omega, hbb.alloc hbb.size _⟩
          case measure => simp [RowKit.intOf]
      · go_wp2
        go_roundw
        case rel => exact ⟨8, rfl, by omega, by simp [wPairs, dblL] at hno ⊢; omega, hbb.alloc hbb.size _⟩
        case measure => simp [RowKit.intOf]
    · by_cases h1 : (127744 : Int) ≤ p
      · by_cases h2 : p ≤ 128591
        · go_wp2
          go_ret
          exact ⟨by rw [show widV p = 2 from by simp [widV, wPairs, dblL, h1, h2]]; rfl, hbb.alloc hbb.size _⟩
        · go_wp2
          go_roundw
          case rel => exact ⟨9, rfl, by omega, by simp [wPairs, dblL] at hno ⊢; omega, hbb.alloc hbb.size _⟩
          case measure => simp [RowKit.intOf]
      · go_wp2
        go_roundw
        case rel => exact ⟨9, rfl, by omega, by simp [wPairs, dblL] at hno ⊢; omega, hbb.alloc hbb.size _⟩
        case measure => simp [RowKit.intOf]
    · by_cases h1 : (129280 : Int) ≤ p
      · by_cases h2 : p ≤ 129535
        · go_wp2
          go_ret
          exact ⟨by rw [show widV p = 2 from by simp [widV, wPairs, dblL, h1, h2]]; rfl, hbb.alloc hbb.size _⟩
        · go_wp2
          go_roundw
          case rel => exact ⟨10, rfl, by omega, by simp [wPairs, dblL] at hno ⊢; omega, hbb.alloc hbb.size _⟩
          case measure => simp [RowKit.intOf]
      · go_wp2
        go_roundw
        case rel => exact ⟨10, rfl, by omega, by simp [wPairs, dblL] at hno ⊢; omega, hbb.alloc hbb.size _⟩
        case measure => simp [RowKit.intOf]
    · by_cases h1 : (131072 : Int) ≤ p
      · by_cases h2 : p ≤ 262141
        · go_wp2
          go_ret
          exact ⟨by rw [show widV p = 2 from by simp [widV, wPairs, dblL, h1, h2]]; rfl, hbb.alloc hbb.size _⟩
        · go_wp2
          go_roundw
          case rel => exact ⟨11, rfl, by omega, by simp [wPairs, dblL] at hno ⊢; omega, hbb.alloc hbb.size _⟩
          case measure => simp [RowKit.intOf]
      · go_wp2
        go_roundw
        case rel => exact ⟨11, rfl, by omega, by simp [wPairs, dblL] at hno ⊢; omega, hbb.alloc hbb.size _⟩
        case measure => simp [RowKit.intOf]
    · have hd : wPairs p dblL = false := hno
      clear xdbl0 xdbl1 xdbl2 xdbl3 xdbl4 xdbl5 xdbl6 xdbl7 xdbl8 xdbl9 xdbl10 hno hi
      have hT2 := (hT.below hbb).2
      go_wp2_with (refine wpList_load_mid rfl 194 _ rfl 6 0 rfl (nonL.map (Value.int .i64)) _ hT2 Tryd.underlying194 rfl (by kernel_rfl) ?_)
      rw [show (List.map (Value.int IntKind.i64) nonL).toArray = nonA from rfl]
      have xnon0 : ∀ w, (Instr.index 194 (.agg nonA) (.int .i64 0)).run Tryd.prog w = .ok (.agg #[.int .i64 768, .int .i64 879]) w := idx2 194 5 nonA 0 Tryd.underlying194 (by omega)
      have xnon1 : ∀ w, (Instr.index 194 (.agg nonA) (.int .i64 1)).run Tryd.prog w = .ok (.agg #[.int .i64 8203, .int .i64 8207]) w := idx2 194 5 nonA 1 Tryd.underlying194 (by omega)
      have xnon2 : ∀ w, (Instr.index 194 (.agg nonA) (.int .i64 2)).run Tryd.prog w = .ok (.agg #[.int .i64 8400, .int .i64 8447]) w := idx2 194 5 nonA 2 Tryd.underlying194 (by omega)
      have xnon3 : ∀ w, (Instr.index 194 (.agg nonA) (.int .i64 3)).run Tryd.prog w = .ok (.agg #[.int .i64 65024, .int .i64 65039]) w := idx2 194 5 nonA 3 Tryd.underlying194 (by omega)
      have xnon4 : ∀ w, (Instr.index 194 (.agg nonA) (.int .i64 4)).run Tryd.prog w = .ok (.agg #[.int .i64 65056, .int .i64 65071]) w := idx2 194 5 nonA 4 Tryd.underlying194 (by omega)
      go_loopw [23] (fun iv W => ∃ i : Nat, iv = .int .i64 i ∧ i ≤ 5 ∧ wPairs p (nonL.take (2 * i)) = false ∧ Below w.heap.size w W) (fun iv _ => 5 - (RowKit.intOf iv).toNat)
      case atStart => exact ⟨0, rfl, by omega, rfl, hbb⟩
      case round =>
        clear hbb hT2
        obtain ⟨i, rfl, hi, hno, hbb⟩ := hrel
        have hc : i = 0 ∨ i = 1 ∨ i = 2 ∨ i = 3 ∨ i = 4 ∨ i = 5 := by omega
        rcases hc with rfl | rfl | rfl | rfl | rfl | rfl
        · by_cases h1 : (768 : Int) ≤ p
          · by_cases h2 : p ≤ 879
            · go_wp2
              go_ret
              exact ⟨by rw [show widV p = 0 from by unfold widV; rw [hd]; simp [wPairs, nonL, h1, h2]]; rfl, hbb.alloc hbb.size _⟩
            · go_wp2
              go_roundw
              case rel => exact ⟨1, rfl, by omega, by simp [wPairs, nonL] at hno ⊢; omega, hbb.alloc hbb.size _⟩
              case measure => simp [RowKit.intOf]
          · go_wp2
            go_roundw
            case rel => exact ⟨1, rfl, by omega, by simp [wPairs, nonL] at hno ⊢; omega, hbb.alloc hbb.size _⟩
            case measure => simp [RowKit.intOf]
        · by_cases h1 : (8203 : Int) ≤ p
          · by_cases h2 : p ≤ 8207
            · go_wp2
              go_ret
              exact ⟨by rw [show widV p = 0 from by unfold widV; rw [hd]; simp [wPairs, nonL, h1, h2]]; rfl, hbb.alloc hbb.size _⟩
            · go_wp2
              go_roundw
              case rel => exact ⟨2, rfl, by omega, by simp [wPairs, nonL] at hno ⊢; omega, hbb.alloc hbb.size _⟩
              case measure => simp [RowKit.intOf]
          · go_wp2
            go_roundw
            case rel => exact ⟨2, rfl, by omega, by simp [wPairs, nonL] at hno ⊢; omega, hbb.alloc hbb.size _⟩
            case measure => simp [RowKit.intOf]
        · by_cases h1 : (8400 : Int) ≤ p
          · by_cases h2 : p ≤ 8447
            · go_wp2
              go_ret
              exact ⟨by rw [show widV p = 0 from by unfold widV; rw [hd]; simp [wPairs, nonL, h1, h2]]; rfl, hbb.alloc hbb.size _⟩
            · go_wp2
              go_roundw
              case rel => exact ⟨3, rfl, by omega, by simp [wPairs, nonL] at hno ⊢; omega, hbb.alloc hbb.size _⟩
              case measure => simp [RowKit.intOf]
          · go_wp2
            go_roundw
            case rel => exact ⟨3, rfl, by omega, by simp [wPairs, nonL] at hno ⊢; omega, hbb.alloc hbb.size _⟩
            case measure => simp [RowKit.intOf]
        · by_cases h1 : (65024 : Int) ≤ p
          · by_cases h2 : p ≤ 65039
            · go_wp2
              go_ret
              exact ⟨by rw [show widV p = 0 from by unfold widV; rw [hd]; simp [wPairs, nonL, h1, h2]]; rfl, hbb.alloc hbb.size _⟩
            · go_wp2
              go_roundw
              case rel => exact ⟨4, rfl, by omega, by simp [wPairs, nonL] at hno ⊢; omega, hbb.alloc hbb.size _⟩
              case measure => simp [RowKit.intOf]
          · go_wp2
            go_roundw
            case rel => exact ⟨4, rfl, by omega, by simp [wPairs, nonL] at hno ⊢; omega, hbb.alloc hbb.size _⟩
            case measure => simp [RowKit.intOf]
        · by_cases h1 : (65056 : Int) ≤ p
          · by_cases h2 : p ≤ 65071
            · go_wp2
              go_ret
              exact ⟨by rw [show widV p = 0 from by unfold widV; rw [hd]; simp [wPairs, nonL, h1, h2]]; rfl, hbb.alloc hbb.size _⟩
            · go_wp2
              go_roundw
              case rel => exact ⟨5, rfl, by omega, by simp [wPairs, nonL] at hno ⊢; omega, hbb.alloc hbb.size _⟩
              case measure => simp [RowKit.intOf]
          · go_wp2
            go_roundw
            case rel => exact ⟨5, rfl, by omega, by simp [wPairs, nonL] at hno ⊢; omega, hbb.alloc hbb.size _⟩
            case measure => simp [RowKit.intOf]
        · have hn : wPairs p nonL = false := hno
          go_wp2
          go_ret
          exact ⟨by rw [show widV p = 1 from by unfold widV; rw [hd, hn]; rfl]; rfl, hbb⟩
end Go.Proofs.YtdphhmigbbgjmaaDoor
