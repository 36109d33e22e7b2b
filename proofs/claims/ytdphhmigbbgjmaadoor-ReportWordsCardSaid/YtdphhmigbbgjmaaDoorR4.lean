/- Widths: package width's Text against the reference's (colophonref02), over the tables that stand at the world. Conditions: the text has at most 2^40 bytes. The reference's widths (package colophonref02): in, Of, Text; and the reference's Points. Conditions: the text has at most 2^40 bytes. -/
import Derived.Test.YtdphhmigbbgjmaaDoorProg
import Derived.Test.YtdphhmigbbgjmaaDoorM1
import Derived.Deep.MidRow
import Derived.Deep.QuietTactic
import Derived.BigQuiet
import Derived.Test.YtdphhmigbbgjmaaDoorM2
import Derived.Laws.RangeString
import Derived.Laws.RangeAny
import Derived.Deep.LoopGhost
import Derived.OwnWalk
import Derived.Lib.OthersKept
import Derived.WalkSmall
import Derived.Deep.RegionHeld3
import Derived.Great.BuildSlice
section
namespace Go.Proofs.YtdphhmigbbgjmaaDoor
open Go.RowKit Go.Lib
def dblL : List Int := [4352, 4447, 11904, 12350, 12353, 42191, 44032, 55203, 63744, 64255, 65072, 65135, 65280, 65376, 65504, 65510, 127744, 128591, 129280, 129535, 131072, 262141]
def nonL : List Int := [768, 879, 8203, 8207, 8400, 8447, 65024, 65039, 65056, 65071]
/-- The width tables lie as the program's text lays them. -/
def Tabs (w : World) : Prop := w.rangeAt 5 0 (dblL.map (Value.int .i64)) ∧ w.rangeAt 6 0 (nonL.map (Value.int .i64))
def wPairs (p : Int) : List Int → Bool
  | a :: b :: r => (decide (a ≤ p) && decide (p ≤ b)) || wPairs p r
  | _ => false
def widV (p : Int) : Int := if wPairs p dblL then 2 else if wPairs p nonL then 0 else 1
theorem Tabs.below {w w' : World} (h : Tabs w) (hb : Below w.heap.size w w') : Tabs w' := by
  have hk : ∀ (b o : Nat) (v : Value), w.cell? ⟨b, o, none⟩ = some v → w'.cell? ⟨b, o, none⟩ = some v := fun b o v hc => by
    have hlt : b < w.heap.size := by
      unfold World.cell? at hc
      rcases Nat.lt_or_ge b w.heap.size with h | h
      · exact h
      · simp [Array.getElem?_eq_none h] at hc
    exact (hb.cell (p := ⟨b, o, none⟩) hlt).trans hc
  exact ⟨fun j v hj => hk _ _ _ (h.1 j v hj), fun j v hj => hk _ _ _ (h.2 j v hj)⟩
theorem idx2 (ty : TypeId) (n : Nat) (cs : Array Value) (i : Nat) (hu : Tryd.prog.underlying ty = some (.array n 192)) (hi : i < n) (w : World) :
    (Instr.index ty (.agg cs) (.int .i64 i)).run Tryd.prog w = .ok (.agg (cs.extract (i * 2) (i * 2 + 2))) w := by
  simp [Instr.index, run_underlying hu, asIntOf, hi, part, Tryd.isAgg192, Tryd.sizeOf192, go_sem]
def dblA : Array Value := #[.int .i64 4352, .int .i64 4447, .int .i64 11904, .int .i64 12350, .int .i64 12353, .int .i64 42191, .int .i64 44032, .int .i64 55203, .int .i64 63744, .int .i64 64255, .int .i64 65072, .int .i64 65135, .int .i64 65280, .int .i64 65376, .int .i64 65504, .int .i64 65510, .int .i64 127744, .int .i64 128591, .int .i64 129280, .int .i64 129535, .int .i64 131072, .int .i64 262141]
def nonA : Array Value := #[.int .i64 768, .int .i64 879, .int .i64 8203, .int .i64 8207, .int .i64 8400, .int .i64 8447, .int .i64 65024, .int .i64 65039, .int .i64 65056, .int .i64 65071]
theorem wPairs_append (p : Int) : ∀ (n : Nat) (l m : List Int), l.length = 2 * n → wPairs p (l ++ m) = (wPairs p l || wPairs p m)
  | 0, l, m, h => by have : l = [] := List.length_eq_zero_iff.1 (by omega); subst this; simp [wPairs]
  | n + 1, a :: b :: r, m, h => by
    have := wPairs_append p n r m (by simpa using (by simpa using h : r.length + 1 + 1 = 2 * (n + 1)) |> fun h => by omega)
    simp [wPairs, this, Bool.or_assoc]
  | n + 1, [a], m, h => by simp at h; omega
  | n + 1, [], m, h => by simp at h
set_option maxHeartbeats 4000000 in
set_option maxRecDepth 100000 in
theorem width_Of (p : Int) (w : World) (hT : Tabs w) :
    Calls Tryd.prog 111 #[.int .i64 p] w fun e w' => e = .returned (.int .i64 (widV p)) ∧ Below w.heap.size w w' := by
  go_enter Tryd.func111, Tryd.ntmps111
  go_wp2_with (refine wpList_load_mid rfl 193 _ rfl 5 0 rfl (dblL.map (Value.int .i64)) _ hT.1 Tryd.underlying193 rfl (by kernel_rfl) ?_)
  rw [show (List.map (Value.int IntKind.i64) dblL).toArray = dblA from rfl]
  have xdbl0 : ∀ w, (Instr.index 193 (.agg dblA) (.int .i64 0)).run Tryd.prog w = .ok (.agg #[.int .i64 4352, .int .i64 4447]) w := idx2 193 11 dblA 0 Tryd.underlying193 (by omega)
  have xdbl1 : ∀ w, (Instr.index 193 (.agg dblA) (.int .i64 1)).run Tryd.prog w = .ok (.agg #[.int .i64 11904, .int .i64 12350]) w := idx2 193 11 dblA 1 Tryd.underlying193 (by omega)
  have xdbl2 : ∀ w, (Instr.index 193 (.agg dblA) (.int .i64 2)).run Tryd.prog w = .ok (.agg #[.int .i64 12353, .int .i64 42191]) w := idx2 193 11 dblA 2 Tryd.underlying193 (by omega)
  have xdbl3 : ∀ w, (Instr.index 193 (.agg dblA) (.int .i64 3)).run Tryd.prog w = .ok (.agg #[.int .i64 44032, .int .i64 55203]) w := idx2 193 11 dblA 3 Tryd.underlying193 (by omega)
  have xdbl4 : ∀ w, (Instr.index 193 (.agg dblA) (.int .i64 4)).run Tryd.prog w = .ok (.agg #[.int .i64 63744, .int .i64 64255]) w := idx2 193 11 dblA 4 Tryd.underlying193 (by omega)
  have xdbl5 : ∀ w, (Instr.index 193 (.agg dblA) (.int .i64 5)).run Tryd.prog w = .ok (.agg #[.int .i64 65072, .int .i64 65135]) w := idx2 193 11 dblA 5 Tryd.underlying193 (by omega)
  have xdbl6 : ∀ w, (Instr.index 193 (.agg dblA) (.int .i64 6)).run Tryd.prog w = .ok (.agg #[.int .i64 65280, .int .i64 65376]) w := idx2 193 11 dblA 6 Tryd.underlying193 (by omega)
  have xdbl7 : ∀ w, (Instr.index 193 (.agg dblA) (.int .i64 7)).run Tryd.prog w = .ok (.agg #[.int .i64 65504, .int .i64 65510]) w := idx2 193 11 dblA 7 Tryd.underlying193 (by omega)
  have xdbl8 : ∀ w, (Instr.index 193 (.agg dblA) (.int .i64 8)).run Tryd.prog w = .ok (.agg #[.int .i64 127744, .int .i64 128591]) w := idx2 193 11 dblA 8 Tryd.underlying193 (by omega)
  have xdbl9 : ∀ w, (Instr.index 193 (.agg dblA) (.int .i64 9)).run Tryd.prog w = .ok (.agg #[.int .i64 129280, .int .i64 129535]) w := idx2 193 11 dblA 9 Tryd.underlying193 (by omega)
  have xdbl10 : ∀ w, (Instr.index 193 (.agg dblA) (.int .i64 10)).run Tryd.prog w = .ok (.agg #[.int .i64 131072, .int .i64 262141]) w := idx2 193 11 dblA 10 Tryd.underlying193 (by omega)
  go_loopw [8] (fun iv W => ∃ i : Nat, iv = .int .i64 i ∧ i ≤ 11 ∧ wPairs p (dblL.take (2 * i)) = false ∧ Below w.heap.size w W) (fun iv _ => 11 - (RowKit.intOf iv).toNat)
  case atStart => exact ⟨0, rfl, by omega, rfl, Below.refl _ _⟩
  case round =>
    obtain ⟨i, rfl, hi, hno, hbb⟩ := hrel
    have hc : i = 0 ∨ i = 1 ∨ i = 2 ∨ i = 3 ∨ i = 4 ∨ i = 5 ∨ i = 6 ∨ i = 7 ∨ i = 8 ∨ i = 9 ∨ i = 10 ∨ i = 11 := by omega
    rcases hc with rfl | rfl | rfl | rfl | rfl | rfl | rfl | rfl | rfl | rfl | rfl | rfl
    · by_cases h1 : (4352 : Int) ≤ p
      · by_cases h2 : p ≤ 4447
        · go_wp2
          go_ret
          exact ⟨by rw [show widV p = 2 from by simp [widV, wPairs, dblL, h1, h2]]; rfl, hbb.alloc hbb.size _⟩
        · go_wp2
          go_roundw
          case rel => exact ⟨1, rfl, by omega, by simp [wPairs, dblL] at hno ⊢; omega, hbb.alloc hbb.size _⟩
          case measure => simp [RowKit.intOf]
      · go_wp2
        go_roundw
        case rel => exact ⟨1, rfl, by omega, by simp [wPairs, dblL] at hno ⊢; omega, hbb.alloc hbb.size _⟩
        case measure => simp [RowKit.intOf]
    · by_cases h1 : (11904 : Int) ≤ p
      · by_cases h2 : p ≤ 12350
        · go_wp2
          go_ret
          exact ⟨by rw [show widV p = 2 from by simp [widV, wPairs, dblL, h1, h2]]; rfl, hbb.alloc hbb.size _⟩
        · go_wp2
          go_roundw
          case rel => exact ⟨2, rfl, by omega, by simp [wPairs, dblL] at hno ⊢; omega, hbb.alloc hbb.size _⟩
          case measure => simp [RowKit.intOf]
      · go_wp2
        go_roundw
        case rel => exact ⟨2, rfl, by omega, by simp [wPairs, dblL] at hno ⊢; omega, hbb.alloc hbb.size _⟩
        case measure => simp [RowKit.intOf]
    · by_cases h1 : (12353 : Int) ≤ p
      · by_cases h2 : p ≤ 42191
        · go_wp2
          go_ret
          exact ⟨by rw [show widV p = 2 from by simp [widV, wPairs, dblL, h1, h2]]; rfl, hbb.alloc hbb.size _⟩
        · go_wp2
          go_roundw
          case rel => exact ⟨3, rfl, by omega, by simp [wPairs, dblL] at hno ⊢; omega, hbb.alloc hbb.size _⟩
          case measure => simp [RowKit.intOf]
      · go_wp2
        go_roundw
        case rel => exact ⟨3, rfl, by omega, by simp [wPairs, dblL] at hno ⊢; omega, hbb.alloc hbb.size _⟩
        case measure => simp [RowKit.intOf]
    · by_cases h1 : (44032 : Int) ≤ p
      · by_cases h2 : p ≤ 55203
        · go_wp2
          go_ret
          exact ⟨by rw [show widV p = 2 from by simp [widV, wPairs, dblL, h1, h2]]; rfl, hbb.alloc hbb.size _⟩
        · go_wp2
          go_roundw
          case rel => exact ⟨4, rfl, by omega, by simp [wPairs, dblL] at hno ⊢; omega, hbb.alloc hbb.size _⟩
          case measure => simp [RowKit.intOf]
      · go_wp2
        go_roundw
        case rel => exact ⟨4, rfl, by omega, by simp [wPairs, dblL] at hno ⊢; omega, hbb.alloc hbb.size _⟩
        case measure => simp [RowKit.intOf]
    · by_cases h1 : (63744 : Int) ≤ p
      · by_cases h2 : p ≤ 64255
        · go_wp2
          go_ret
          exact ⟨by rw [show widV p = 2 from by simp [widV, wPairs, dblL, h1, h2]]; rfl, hbb.alloc hbb.size _⟩
        · go_wp2
          go_roundw
          case rel => exact ⟨5, rfl, by omega, by simp [wPairs, dblL] at hno ⊢; omega, hbb.alloc hbb.size _⟩
          case measure => simp [RowKit.intOf]
      · go_wp2
        go_roundw
        case rel => exact ⟨5, rfl, by omega, by simp [wPairs, dblL] at hno ⊢; omega, hbb.alloc hbb.size _⟩
        case measure => simp [RowKit.intOf]
    · by_cases h1 : (65072 : Int) ≤ p
      · by_cases h2 : p ≤ 65135
        · go_wp2
          go_ret
          exact ⟨by rw [show widV p = 2 from by simp [widV, wPairs, dblL, h1, h2]]; rfl, hbb.alloc hbb.size _⟩
        · go_wp2
          go_roundw
          case rel => exact ⟨6, rfl, by omega, by simp [wPairs, dblL] at hno ⊢; omega, hbb.alloc hbb.size _⟩
          case measure => simp [RowKit.intOf]
      · go_wp2
        go_roundw
        case rel => exact ⟨6, rfl, by omega, by simp [wPairs, dblL] at hno ⊢; omega, hbb.alloc hbb.size _⟩
        case measure => simp [RowKit.intOf]
    · by_cases h1 : (65280 : Int) ≤ p
      · by_cases h2 : p ≤ 65376
        · go_wp2
          go_ret
          exact ⟨by rw [show widV p = 2 from by simp [widV, wPairs, dblL, h1, h2]]; rfl, hbb.alloc hbb.size _⟩
        · go_wp2
          go_roundw
          case rel => exact ⟨7, rfl, by omega, by simp [wPairs, dblL] at hno ⊢; omega, hbb.alloc hbb.size _⟩
          case measure => simp [RowKit.intOf]
      · go_wp2
        go_roundw
        case rel => exact ⟨7, rfl, by omega, by simp [wPairs, dblL] at hno ⊢; omega, hbb.alloc hbb.size _⟩
        case measure => simp [RowKit.intOf]
    · by_cases h1 : (65504 : Int) ≤ p
      · by_cases h2 : p ≤ 65510
        · go_wp2
          go_ret
          exact ⟨by rw [show widV p = 2 from by simp [widV, wPairs, dblL, h1, h2]]; rfl, hbb.alloc hbb.size _⟩
        · go_wp2
          go_roundw
          case rel => exact ⟨8, rfl, by omega, by simp [wPairs, dblL] at hno ⊢; omega, hbb.alloc hbb.size _⟩
          case measure => simp [RowKit.intOf]
      · go_wp2
        go_roundw
        case rel => exact ⟨8, rfl, by omega, by simp [wPairs, dblL] at hno ⊢; omega, hbb.alloc hbb.size _⟩
        case measure => simp [RowKit.intOf]
    · by_cases h1 : (127744 : Int) ≤ p
      · by_cases h2 : p ≤ 128591
        · go_wp2
          go_ret
          exact ⟨by rw [show widV p = 2 from by simp [widV, wPairs, dblL, h1, h2]]; rfl, hbb.alloc hbb.size _⟩
        · go_wp2
          go_roundw
          case rel => exact ⟨9, rfl, by omega, by simp [wPairs, dblL] at hno ⊢; omega, hbb.alloc hbb.size _⟩
          case measure => simp [RowKit.intOf]
      · go_wp2
        go_roundw
        case rel => exact ⟨9, rfl, by omega, by simp [wPairs, dblL] at hno ⊢; omega, hbb.alloc hbb.size _⟩
        case measure => simp [RowKit.intOf]
    · by_cases h1 : (129280 : Int) ≤ p
      · by_cases h2 : p ≤ 129535
        · go_wp2
          go_ret
          exact ⟨by rw [show widV p = 2 from by simp [widV, wPairs, dblL, h1, h2]]; rfl, hbb.alloc hbb.size _⟩
        · go_wp2
          go_roundw
          case rel => exact ⟨10, rfl, by omega, by simp [wPairs, dblL] at hno ⊢; omega, hbb.alloc hbb.size _⟩
          case measure => simp [RowKit.intOf]
      · go_wp2
        go_roundw
        case rel => exact ⟨10, rfl, by omega, by simp [wPairs, dblL] at hno ⊢; omega, hbb.alloc hbb.size _⟩
        case measure => simp [RowKit.intOf]
    · by_cases h1 : (131072 : Int) ≤ p
      · by_cases h2 : p ≤ 262141
        · go_wp2
          go_ret
          exact ⟨by rw [show widV p = 2 from by simp [widV, wPairs, dblL, h1, h2]]; rfl, hbb.alloc hbb.size _⟩
        · go_wp2
          go_roundw
          case rel => exact ⟨11, rfl, by omega, by simp [wPairs, dblL] at hno ⊢; omega, hbb.alloc hbb.size _⟩
          case measure => simp [RowKit.intOf]
      · go_wp2
        go_roundw
        case rel => exact ⟨11, rfl, by omega, by simp [wPairs, dblL] at hno ⊢; omega, hbb.alloc hbb.size _⟩
        case measure => simp [RowKit.intOf]
    · have hd : wPairs p dblL = false := hno
      clear xdbl0 xdbl1 xdbl2 xdbl3 xdbl4 xdbl5 xdbl6 xdbl7 xdbl8 xdbl9 xdbl10 hno hi
      have hT2 := (hT.below hbb).2
      go_wp2_with (refine wpList_load_mid rfl 194 _ rfl 6 0 rfl (nonL.map (Value.int .i64)) _ hT2 Tryd.underlying194 rfl (by kernel_rfl) ?_)
      rw [show (List.map (Value.int IntKind.i64) nonL).toArray = nonA from rfl]
      have xnon0 : ∀ w, (Instr.index 194 (.agg nonA) (.int .i64 0)).run Tryd.prog w = .ok (.agg #[.int .i64 768, .int .i64 879]) w := idx2 194 5 nonA 0 Tryd.underlying194 (by omega)
      have xnon1 : ∀ w, (Instr.index 194 (.agg nonA) (.int .i64 1)).run Tryd.prog w = .ok (.agg #[.int .i64 8203, .int .i64 8207]) w := idx2 194 5 nonA 1 Tryd.underlying194 (by omega)
      have xnon2 : ∀ w, (Instr.index 194 (.agg nonA) (.int .i64 2)).run Tryd.prog w = .ok (.agg #[.int .i64 8400, .int .i64 8447]) w := idx2 194 5 nonA 2 Tryd.underlying194 (by omega)
      have xnon3 : ∀ w, (Instr.index 194 (.agg nonA) (.int .i64 3)).run Tryd.prog w = .ok (.agg #[.int .i64 65024, .int .i64 65039]) w := idx2 194 5 nonA 3 Tryd.underlying194 (by omega)
      have xnon4 : ∀ w, (Instr.index 194 (.agg nonA) (.int .i64 4)).run Tryd.prog w = .ok (.agg #[.int .i64 65056, .int .i64 65071]) w := idx2 194 5 nonA 4 Tryd.underlying194 (by omega)
      go_loopw [23] (fun iv W => ∃ i : Nat, iv = .int .i64 i ∧ i ≤ 5 ∧ wPairs p (nonL.take (2 * i)) = false ∧ Below w.heap.size w W) (fun iv _ => 5 - (RowKit.intOf iv).toNat)
      case atStart => exact ⟨0, rfl, by omega, rfl, hbb⟩
      case round =>
        clear hbb hT2
        obtain ⟨i, rfl, hi, hno, hbb⟩ := hrel
        have hc : i = 0 ∨ i = 1 ∨ i = 2 ∨ i = 3 ∨ i = 4 ∨ i = 5 := by omega
        rcases hc with rfl | rfl | rfl | rfl | rfl | rfl
        · by_cases h1 : (768 : Int) ≤ p
          · by_cases h2 : p ≤ 879
            · go_wp2
              go_ret
              exact ⟨by rw [show widV p = 0 from by unfold widV; rw [hd]; simp [wPairs, nonL, h1, h2]]; rfl, hbb.alloc hbb.size _⟩
            · go_wp2
              go_roundw
              case rel => exact ⟨1, rfl, by omega, by simp [wPairs, nonL] at hno ⊢; omega, hbb.alloc hbb.size _⟩
              case measure => simp [RowKit.intOf]
          · go_wp2
            go_roundw
            case rel => exact ⟨1, rfl, by omega, by simp [wPairs, nonL] at hno ⊢; omega, hbb.alloc hbb.size _⟩
            case measure => simp [RowKit.intOf]
        · by_cases h1 : (8203 : Int) ≤ p
          · by_cases h2 : p ≤ 8207
            · go_wp2
              go_ret
              exact ⟨by rw [show widV p = 0 from by unfold widV; rw [hd]; simp [wPairs, nonL, h1, h2]]; rfl, hbb.alloc hbb.size _⟩
            · go_wp2
              go_roundw
              case rel => exact ⟨2, rfl, by omega, by simp [wPairs, nonL] at hno ⊢; omega, hbb.alloc hbb.size _⟩
              case measure => simp [RowKit.intOf]
          · go_wp2
            go_roundw
            case rel => exact ⟨2, rfl, by omega, by simp [wPairs, nonL] at hno ⊢; omega, hbb.alloc hbb.size _⟩
            case measure => simp [RowKit.intOf]
        · by_cases h1 : (8400 : Int) ≤ p
          · by_cases h2 : p ≤ 8447
            · go_wp2
              go_ret
              exact ⟨by rw [show widV p = 0 from by unfold widV; rw [hd]; simp [wPairs, nonL, h1, h2]]; rfl, hbb.alloc hbb.size _⟩
            · go_wp2
              go_roundw
              case rel => exact ⟨3, rfl, by omega, by simp [wPairs, nonL] at hno ⊢; omega, hbb.alloc hbb.size _⟩
              case measure => simp [RowKit.intOf]
          · go_wp2
            go_roundw
            case rel => exact ⟨3, rfl, by omega, by simp [wPairs, nonL] at hno ⊢; omega, hbb.alloc hbb.size _⟩
            case measure => simp [RowKit.intOf]
        · by_cases h1 : (65024 : Int) ≤ p
          · by_cases h2 : p ≤ 65039
            · go_wp2
              go_ret
              exact ⟨by rw [show widV p = 0 from by unfold widV; rw [hd]; simp [wPairs, nonL, h1, h2]]; rfl, hbb.alloc hbb.size _⟩
            · go_wp2
              go_roundw
              case rel => exact ⟨4, rfl, by omega, by simp [wPairs, nonL] at hno ⊢; omega, hbb.alloc hbb.size _⟩
              case measure => simp [RowKit.intOf]
          · go_wp2
            go_roundw
            case rel => exact ⟨4, rfl, by omega, by simp [wPairs, nonL] at hno ⊢; omega, hbb.alloc hbb.size _⟩
            case measure => simp [RowKit.intOf]
        · by_cases h1 : (65056 : Int) ≤ p
          · by_cases h2 : p ≤ 65071
            · go_wp2
              go_ret
              exact ⟨by rw [show widV p = 0 from by unfold widV; rw [hd]; simp [wPairs, nonL, h1, h2]]; rfl, hbb.alloc hbb.size _⟩
            · go_wp2
              go_roundw
              case rel => exact ⟨5, rfl, by omega, by simp [wPairs, nonL] at hno ⊢; omega, hbb.alloc hbb.size _⟩
              case measure => simp [RowKit.intOf]
          · go_wp2
            go_roundw
            case rel => exact ⟨5, rfl, by omega, by simp [wPairs, nonL] at hno ⊢; omega, hbb.alloc hbb.size _⟩
            case measure => simp [RowKit.intOf]
        · have hn : wPairs p nonL = false := hno
          go_wp2
          go_ret
          exact ⟨by rw [show widV p = 1 from by unfold widV; rw [hd, hn]; rfl]; rfl, hbb⟩
end Go.Proofs.YtdphhmigbbgjmaaDoor
end
section
namespace Go.Proofs.YtdphhmigbbgjmaaDoor
open Go.RowKit Go.Lib
attribute [local go_sem] byteAt_get wrap64_byteAt

/-- The code points of a text. -/
def pts : Bs → List Int
  | [] => []
  | b :: t => ((decodeL (b :: t)).1 : Int) :: pts (t.drop ((decodeL (b :: t)).2 - 1))
termination_by l => l.length
decreasing_by simp only [List.length_drop, List.length_cons]; omega
theorem pts_nil : pts [] = [] := by unfold pts; rfl
theorem pts_step (l : Bs) (h : l ≠ []) : pts l = ((decodeL l).1 : Int) :: pts (l.drop (decodeL l).2) := by
  cases l with
  | nil => exact absurd rfl h
  | cons b t =>
    have := decL_pos (b :: t)
    rw [pts]
    obtain ⟨n, hn⟩ : ∃ n, (decodeL (b :: t)).2 = n + 1 := ⟨(decodeL (b :: t)).2 - 1, by omega⟩
    rw [hn]; rfl
theorem pts_at (s : ByteArray) (p : Nat) (h : p < s.size) : pts (s.data.toList.drop p) = ((Utf8.decode s p).1 : Int) :: pts (s.data.toList.drop (p + (Utf8.decode s p).2)) := by
  rw [pts_step _ (drop_ne s p h), decodeL_drop, List.drop_drop]
theorem pts_end (s : ByteArray) (p : Nat) (h : s.size ≤ p) : pts (s.data.toList.drop p) = [] := by
  rw [List.drop_eq_nil_of_le (by rw [size_len]; exact h), pts_nil]
theorem pts_len (l : Bs) : (pts l).length = cnt l := by
  induction h : l.length using Nat.strongRecOn generalizing l with
  | _ n ih =>
    by_cases e : l = []
    · subst e; simp [cnt_nil, pts_nil]
    · have h1 := decL_pos l
      have h2 := decL_le l e
      rw [cnt_step l e, pts_step l e, List.length_cons, ih (l.drop (decodeL l).2).length (by rw [List.length_drop]; omega) _ rfl]; omega
/-- The width of a row of points. -/
def sumW : List Int → Int
  | [] => 0
  | p :: r => widV p + sumW r
theorem sumW_append : ∀ (l m : List Int), sumW (l ++ m) = sumW l + sumW m
  | [], m => by simp [sumW]
  | p :: r, m => by simp [sumW, sumW_append r m]; omega
theorem widV_le (p : Int) : 0 ≤ widV p ∧ widV p ≤ 2 := by unfold widV; split <;> (try split) <;> omega
theorem sumW_le : ∀ (l : List Int), 0 ≤ sumW l ∧ sumW l ≤ 2 * l.length
  | [] => by simp [sumW]
  | p :: r => by have := sumW_le r; have := widV_le p; simp [sumW]; omega
/-- The width of a text. -/
def wid (l : Bs) : Int := sumW (pts l)
theorem wid_le (l : Bs) : 0 ≤ wid l ∧ wid l ≤ 2 * l.length := by
  have := sumW_le (pts l); have h := pts_len l; have := cnt_le l; unfold wid; omega
theorem wid_at (s : ByteArray) (p : Nat) (h : p < s.size) : wid (s.data.toList.drop p) = widV ((Utf8.decode s p).1 : Int) + wid (s.data.toList.drop (p + (Utf8.decode s p).2)) := by
  unfold wid; rw [pts_at s p h]; rfl
theorem wid_end (s : ByteArray) (p : Nat) (h : s.size ≤ p) : wid (s.data.toList.drop p) = 0 := by unfold wid; rw [pts_end s p h]; rfl

set_option maxHeartbeats 4000000 in
theorem width_Text (s : ByteArray) (w : World) (hs : s.size ≤ 1099511627776) (hT : Tabs w) :
    Calls Tryd.prog 59 #[.string s] w fun e w' => e = .returned (.int .i64 (wid s.data.toList)) ∧ Below w.heap.size w w' := by
  go_enter Tryd.func59, Tryd.ntmps59
  go_wp2
  go_loopw [3] (fun v wr => ∃ (pos : Nat) (acc : Int), wr.heap[w.heap.size]? = some (.stringIter s pos) ∧ pos ≤ s.size ∧ v = .int .i64 acc ∧ 0 ≤ acc ∧ acc ≤ 2 * pos ∧ Hid (acc + wid (s.data.toList.drop pos) = wid s.data.toList) ∧ Below w.heap.size w wr) (fun _ wr => s.size - wr.iterPos w.heap.size)
  case atStart => exact ⟨0, 0, World.iter_heap _ _ _, Nat.zero_le _, rfl, by omega, by omega, by show _ = _; simp, (Below.refl _ _).alloc (Nat.le_refl _) _⟩
  case round =>
    obtain ⟨pos, acc, hit, hle, rfl, ha0, ha, hacc, hb⟩ := hrel
    by_cases hp : pos < s.size
    · have hd1 := dec_pos s pos
      have hd2 := dec_le s pos hp
      have hlt : w.heap.size < wr.heap.size := (Array.getElem?_eq_some_iff.1 hit).1
      have hnx : ∀ ty, (Instr.next (.pointer (some ⟨w.heap.size, 0, none⟩)) true ty).run Tryd.prog wr = _ := fun ty => Lib.run_next_any_at wr w.heap.size s pos ty hit hp
      have hit2 := Lib.iterAt_heap wr w.heap.size s pos (pos + (Utf8.decode s pos).2) hit
      have hb2 := Lib.below_iterAt hb (Nat.le_refl _) s (pos + (Utf8.decode s pos).2)
      have hz := Lib.iterAt_size wr w.heap.size s (pos + (Utf8.decode s pos).2)
      obtain ⟨W2, hW2⟩ : ∃ W2, wr.iterAt w.heap.size s (pos + (Utf8.decode s pos).2) = W2 := ⟨_, rfl⟩
      rw [hW2] at hit2 hb2 hnx hz
      have hlt2 : w.heap.size < W2.heap.size := by omega
      have hbs := hb2.size
      have hpos1 : Hid (wr.iterPos w.heap.size = pos) := by show _ = _; unfold World.iterPos; rw [hit]
      clear hW2 hz hb hit hlt
      have hT2 := hT.below hb2
      go_wp2_with fail
      refine (width_Of _ _ hT2).mono ?_
      rintro e w1 ⟨rfl, hq⟩
      have hit3 : w1.heap[w.heap.size]? = some (.stringIter s (pos + (Utf8.decode s pos).2)) := by rw [hq.block _ hlt2]; exact hit2
      have hb3 := hb2.trans (hq.mono hbs)
      have hpos2 : Hid (w1.iterPos w.heap.size = pos + (Utf8.decode s pos).2) := by show _ = _; unfold World.iterPos; rw [hit3]
      have hcp := Lib.rune_le s pos
      have hcw : wrap64 ((Utf8.decode s pos).1 : Int) = ((Utf8.decode s pos).1 : Int) := by unfold wrap64; omega
      rw [hcw]
      have hwv := widV_le ((Utf8.decode s pos).1 : Int)
      have hw := wid_at s pos hp
      obtain ⟨V, hV⟩ : ∃ V, widV ((Utf8.decode s pos).1 : Int) = V := ⟨_, rfl⟩
      rw [hV] at hw hwv ⊢
      have hwr : IntKind.i64.wrap (acc + V) = acc + V := IntWalk.i64_in _ (by omega)
      clear hnx hq
      go_wp2
      go_roundw
      case rel => exact ⟨pos + (Utf8.decode s pos).2, acc + V, hit3, hd2, rfl, by omega, by omega, by show _ = _; rw [← hacc.out, hw]; omega, hb3⟩
      case measure => rw [hpos1.out, hpos2.out]; omega
    · have hnx : ∀ ty, (Instr.next (.pointer (some ⟨w.heap.size, 0, none⟩)) true ty).run Tryd.prog wr = _ := fun ty => Lib.run_next_end_at wr w.heap.size s pos ty hit hp
      have e : acc = wid s.data.toList := by rw [← hacc.out, wid_end s pos (by omega), Int.add_zero]
      subst e
      go_wp2
      go_ret
      exact ⟨rfl, hb⟩
end Go.Proofs.YtdphhmigbbgjmaaDoor
end
section
namespace Go.Proofs.YtdphhmigbbgjmaaDoor
open Go.RowKit Go.Lib
attribute [local go_sem] byteAt_get wrap64_byteAt

theorem take_two {α : Type} (l : List α) (j : Nat) (hj : j + 1 < l.length) : l.take (j + 2) = l.take j ++ [l[j], l[j + 1]] := by
  have h1 : l.take (j + 1 + 1) = l.take (j + 1) ++ [l[j + 1]] := by simp
  have h2 : l.take (j + 1) = l.take j ++ [l[j]'(by omega)] := by simp
  rw [h2] at h1
  rw [show j + 2 = j + 1 + 1 from rfl, h1, List.append_assoc]; rfl
theorem wPairs_take (p : Int) (l : List Int) (j : Nat) (he : j % 2 = 0) (hj : j + 1 < l.length) : wPairs p (l.take (j + 2)) = (wPairs p (l.take j) || (decide (l[j] ≤ p) && decide (p ≤ l[j + 1]))) := by
  rw [take_two l j hj, wPairs_append p (j / 2) _ _ (by rw [List.length_take]; omega)]
  simp [wPairs]
theorem wPairs_of (p : Int) (l : List Int) (j : Nat) (he : j % 2 = 0) (hj : j + 1 < l.length) (h1 : l[j] ≤ p) (h2 : p ≤ l[j + 1]) : wPairs p l = true := by
  have h := wPairs_append p ((j + 2) / 2) (l.take (j + 2)) (l.drop (j + 2)) (by rw [List.length_take]; omega)
  rw [List.take_append_drop, wPairs_take p l j he hj] at h
  rw [h]; simp [h1, h2]

set_option maxHeartbeats 4000000 in
theorem r2_in (p : Int) (l : List Int) (b cap : Nat) (w : World) (hl : l.length < 1099511627776) (hev : l.length % 2 = 0) (hc : ∀ j (h : j < l.length), w.cell? ⟨b, j, none⟩ = some (.int .i64 l[j])) :
    Calls Tryd.prog 170 #[.int .i64 p, .slice (some ⟨b, 0, none⟩) l.length cap] w fun e w' => e = .returned (.bool (wPairs p l)) ∧ w' = w := by
  replace hc := Lib.hid hc
  go_enter Tryd.func170, Tryd.ntmps170
  go_wp2
  go_loopw [5] (fun iv W => ∃ j : Nat, iv = .int .i64 j ∧ j % 2 = 0 ∧ j ≤ l.length ∧ Hid (wPairs p (l.take j) = false) ∧ W = w) (fun iv _ => l.length - (RowKit.intOf iv).toNat)
  case atStart => exact ⟨0, rfl, rfl, by omega, rfl, rfl⟩
  case round =>
    obtain ⟨j, rfl, he, hj, hno, rfl⟩ := hrel
    have w1 : IntKind.i64.wrap ((j : Int) + 1) = j + 1 := IntWalk.i64_in _ (by omega)
    have w2 : IntKind.i64.wrap ((j : Int) + 2) = j + 2 := IntWalk.i64_in _ (by omega)
    by_cases hlt : j + 1 < l.length
    · have c1 := hc.out j (by omega)
      have c2 := hc.out (j + 1) hlt
      have hk := wPairs_take p l j he hlt
      have hy := wPairs_of p l j he hlt
      rw [hno.out, Bool.false_or] at hk
      obtain ⟨x, hx⟩ : ∃ x, l[j] = x := ⟨_, rfl⟩
      obtain ⟨y, hy'⟩ : ∃ y, l[j + 1] = y := ⟨_, rfl⟩
      rw [hx] at c1 hk hy
      rw [hy'] at c2 hk hy
      replace hk := Lib.hid hk; replace hy := Lib.hid hy; replace hx := Lib.hid hx; replace hy' := Lib.hid hy'
      by_cases h1 : x ≤ p
      · by_cases h2 : p ≤ y
        · go_wp2
          go_ret
          exact ⟨by rw [hy.out h1 h2]; rfl, rfl⟩
        · go_wp2
          go_roundw
          case rel => exact ⟨j + 2, by go_num, by omega, by omega, by show _ = _; rw [hk.out]; simp [h1, h2], by trivial⟩
          case measure => simp [RowKit.intOf]; omega
      · go_wp2
        go_roundw
        case rel => exact ⟨j + 2, by go_num, by omega, by omega, by show _ = _; rw [hk.out]; simp [h1], by trivial⟩
        case measure => simp [RowKit.intOf]; omega
    · have e : wPairs p l = false := by
        have := hno.out; rwa [show j = l.length by omega, List.take_length] at this
      go_wp2
      go_ret
      exact ⟨by rw [e]; rfl, rfl⟩

theorem cells_new (w : World) (l : List Int) (t : TypeId) : ∀ j (h : j < l.length), (w.alloc (.cells (l.map (Value.int .i64)).toArray t)).cell? ⟨w.heap.size, j, none⟩ = some (.int .i64 l[j]) := fun j h => by
  rw [(Blk.new w _ t).cell j]; simp [h]
set_option maxHeartbeats 4000000 in
theorem r2_Of (p : Int) (w : World) :
    Calls Tryd.prog 140 #[.int .i64 p] w fun e w' => e = .returned (.int .i64 (widV p)) ∧ Below w.heap.size w w' := by
  go_enter Tryd.func140, Tryd.ntmps140
  go_wp2_with (refine wpList_buildFlat rfl 63 3 22 _ rfl .i64 dblL Tryd.underlying63 (by kernel_rfl) (by kernel_rfl) rfl (by omega) (by omega) rfl ?_)
  refine (r2_in p dblL w.heap.size 22 _ (by decide) (by decide) (cells_new w dblL 3)).mono ?_
  rintro e w1 ⟨rfl, rfl⟩
  have b1 := (Below.refl w.heap.size w).alloc (Nat.le_refl _) (.cells (dblL.map (Value.int .i64)).toArray 3)
  obtain ⟨W1, hW1⟩ : ∃ W1, w.alloc (.cells (dblL.map (Value.int .i64)).toArray 3) = W1 := ⟨_, rfl⟩
  rw [hW1] at b1 ⊢
  clear hW1
  go_wp2_with (refine wpList_buildFlat rfl 63 3 10 _ rfl .i64 nonL Tryd.underlying63 (by kernel_rfl) (by kernel_rfl) rfl (by omega) (by omega) rfl ?_)
  refine (r2_in p nonL W1.heap.size 10 _ (by decide) (by decide) (cells_new W1 nonL 3)).mono ?_
  rintro e w2 ⟨rfl, rfl⟩
  have b2 := b1.alloc b1.size (.cells (nonL.map (Value.int .i64)).toArray 3)
  cases hA : wPairs p dblL <;> cases hB : wPairs p nonL <;> (go_wp2; go_ret; exact ⟨by unfold widV; rw [hA, hB]; rfl, b2⟩)

theorem Tryd.info32 : (Tryd.prog.info? 3).map (fun i => (i.zero, i.size, i.bytes)) = some (some (.int .i64 0), 1, 8) := by kernel_rfl
set_option maxHeartbeats 4000000 in
/-- The reference's points. -/
theorem r1_Points (s : ByteArray) (w : World) (hs : s.size ≤ 1099511627776) :
    Calls Tryd.prog 139 #[.string s] w fun e w' => ∃ v, e = .returned v ∧ w'.ownsRow w.heap.size 3 1 v (pts s.data.toList).length ((pts s.data.toList).map (Value.int .i64)) ∧ Below w.heap.size w w' := by
  obtain ⟨i0, hi, hz0, hz1, hz2⟩ := info_parts Tryd.info32
  have hi := Lib.hid hi
  have hz0 := Lib.hid hz0
  have hz1 := Lib.hid hz1
  have hz2 := Lib.hid hz2
  go_enter Tryd.func139, Tryd.ntmps139
  go_wp2
  go_loopw [3, 4] (fun v i wr => ∃ (pos : Nat) (acc : List Int), i = .int .i64 pos ∧ pos ≤ s.size ∧ acc.length ≤ pos ∧ acc ++ pts (s.data.toList.drop pos) = pts s.data.toList ∧ wr.ownsRow w.heap.size 3 1 v acc.length (acc.map (Value.int .i64)) ∧ Below w.heap.size w wr) (fun _ i _ => s.size - (RowKit.intOf i).toNat)
  case atStart => exact ⟨0, [], rfl, Nat.zero_le _, Nat.le_refl _, by simp, World.ownsRow_nil _ _ _ _, Below.refl _ _⟩
  case round =>
    obtain ⟨pos, acc, rfl, hle, hal, hacc, hown, hb⟩ := hrel
    have hacc := Lib.hid hacc
    by_cases hp : pos < s.size
    · have hd1 := dec_pos s pos
      have hd2 := dec_le s pos hp
      have hbs := hb.size
      go_wp2_with (first
        | (at_builtin; refine wpList_append_own _ rfl _ _ 63 rfl w.heap.size 3 i0 (.int .i64 0) 1 8 Tryd.underlying63 hi.out hz0.out hz1.out hz2.out rfl (by decide) _ _ _ rfl (hown.alloc _) ⟨wr.heap.size, 0, none⟩ 1 1 [.int .i64 (Utf8.decode s pos).1] rfl rfl (cell_one_new _ _ _) (by simp [Value.oneCell']) (by unfold maxLen; omega) (by omega) (by simp; omega) ?_; intro v' w1 hown' hgrow _; have hb1 := (hb.alloc hbs _).grown hgrow (by simp; omega) (fun k e => by have := (hown.lt k e).1; omega))
        | (go_at_call 98; refine (r1_Next _ _ _ hp (by omega)).mono ?_; rintro e w' ⟨rfl, rfl⟩; unfold nextV))
      go_roundw
      case rel => exact ⟨pos + (Utf8.decode s pos).2, acc ++ [((Utf8.decode s pos).1 : Int)], by go_num, hd2, by simp; omega, by rw [← hacc.out, pts_at s pos hp]; simp, by simpa using hown', hb1⟩
      case measure => simp [RowKit.intOf]; omega
    · have e : acc = pts s.data.toList := by rw [← hacc.out, pts_end s pos (by omega), List.append_nil]
      rw [e] at hown
      clear e
      go_wp2
      go_ret
      exact ⟨_, rfl, hown, hb⟩
theorem at_off (g i : Nat) : (⟨g, 0, none⟩ : Addr).add i = ⟨g, i, none⟩ := by
  unfold Addr.add; split
  · rename_i h; simp_all
  · simp
set_option maxHeartbeats 4000000 in
theorem r2_Text (s : ByteArray) (w : World) (hs : s.size ≤ 1099511627776) :
    Calls Tryd.prog 97 #[.string s] w fun e w' => e = .returned (.int .i64 (wid s.data.toList)) ∧ Below w.heap.size w w' := by
  obtain ⟨V, hw⟩ : ∃ V, sumW (pts s.data.toList) = V := ⟨_, rfl⟩
  rw [show wid s.data.toList = V from hw]
  go_enter Tryd.func97, Tryd.ntmps97
  go_wp2_with fail
  refine (r1_Points s _ hs).mono ?_
  rintro e w1 ⟨v, rfl, hown, hb1⟩
  obtain ⟨l, hl⟩ : ∃ l, l = pts s.data.toList := ⟨_, rfl⟩
  have hlen : l.length ≤ s.size := by rw [hl, pts_len]; have := cnt_le s.data.toList; rw [size_len] at this; exact this
  rw [← hl] at hown
  rw [← hl] at hw
  clear hl
  obtain ⟨ra, rc, rfl⟩ := ownsRow_shape hown
  have hcells : ∃ g, ∀ i (hi : i < l.length), ra = some ⟨g, 0, none⟩ ∧ g < w1.heap.size ∧ w1.cell? ⟨g, i, none⟩ = some (.int .i64 l[i]) := by
    rcases hown.2 with ⟨he, h0⟩ | ⟨g, cap, cur, he, hB, hg, hle, hm, hsz, ht⟩
    · exact ⟨0, fun i hi => by omega⟩
    · injection he with e1 e2 e3
      subst e1
      refine ⟨g, fun i hi => ⟨rfl, (Array.getElem?_eq_some_iff.1 hg).1, ?_⟩⟩
      have := World.ownsRow.cells hown (g := g) rfl i (.int .i64 l[i]) (by simp [hi])
      rwa [at_off] at this
  obtain ⟨g, hcells⟩ := hcells
  replace hcells := Lib.hid hcells
  clear hown
  go_wp2
  go_loopw [3, 5] (fun nv iv W => ∃ (i : Nat) (acc : Int), iv = .int .i64 i ∧ i ≤ l.length ∧ nv = .int .i64 acc ∧ Hid (acc + sumW (l.drop i) = V) ∧ 0 ≤ acc ∧ acc ≤ 2 * i ∧ Below w.heap.size w W ∧ Below w1.heap.size w1 W) (fun _ iv _ => l.length - (RowKit.intOf iv).toNat)
  case atStart => exact ⟨0, 0, rfl, by omega, rfl, by show _ = _; simpa using hw, by omega, by omega, hb1, Below.refl _ _⟩
  case round =>
    obtain ⟨i, acc, rfl, hi, rfl, hacc, ha0, ha, hb, hb2⟩ := hrel
    by_cases hlt : i < l.length
    · obtain ⟨hra, hg, hc⟩ := hcells.out i hlt
      have hc2 := (hb2.cell (p := ⟨g, i, none⟩) hg).trans hc
      obtain ⟨x, hx⟩ : ∃ x, l[i] = x := ⟨_, rfl⟩
      have hdr : sumW (l.drop i) = widV x + sumW (l.drop (i + 1)) := by rw [List.drop_eq_getElem_cons hlt, hx]; rfl
      rw [hx] at hc2
      subst hra
      have hwv := widV_le x
      clear hc hx hcells
      go_wp2_with fail
      refine (r2_Of _ _).mono ?_
      rintro e w3 ⟨rfl, hq⟩
      obtain ⟨u, hu⟩ : ∃ u, widV x = u := ⟨_, rfl⟩
      rw [hu] at hdr hwv ⊢
      have hwr : IntKind.i64.wrap (acc + u) = acc + u := IntWalk.i64_in _ (by omega)
      have hb3 := hb.trans (hq.mono hb.size)
      have hb4 := hb2.trans (hq.mono hb2.size)
      have hacc2 : Hid (acc + u + sumW (l.drop (i + 1)) = V) := by show _ = _; rw [← hacc.out, hdr]; omega
      clear hq hu hdr hc2 hb hb2
      go_wp2
      go_roundw
      case rel => first | exact ⟨i + 1, acc + u, by go_num, by omega, rfl, hacc2, by omega, by omega, hb3, hb4⟩ | ((repeat apply Exists.intro); exact ⟨⟨i + 1, acc + u, by go_num, by omega, rfl, hacc2, by omega, by omega, hb3, hb4⟩, rfl⟩)
      case measure => simp [RowKit.intOf]; omega
    · have e : acc = V := by have := hacc.out; rw [List.drop_eq_nil_of_le (by omega)] at this; simpa [sumW] using this
      subst e
      go_wp2
      go_ret
      exact ⟨rfl, hb⟩
end Go.Proofs.YtdphhmigbbgjmaaDoor
end
