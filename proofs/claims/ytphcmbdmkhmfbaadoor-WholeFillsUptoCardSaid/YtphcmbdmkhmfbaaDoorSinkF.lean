/- Feed and Empty of the program's sink. -/
import Derived.Test.YtphcmbdmkhmfbaaDoorGathA
namespace Go.Proofs.YtphcmbdmkhmfbaaDoor
open Go.RowKit Go.Lib
set_option maxHeartbeats 4000000 in
set_option maxRecDepth 100000 in
theorem sk_Feed (b : Nat) (v : Value) (l : List UInt8) (f : Bool) (x y z : Int) (n : Int) (w : World) (h : S7 w b v l f x y z) (hl : l.length ≤ 1099511627776) :
    Calls Tryd.prog 14 #[.pointer (some ⟨b, 0, none⟩), .int .i64 n] w fun e w' => (0 ≤ n ∧ n ≤ 1048576 → e = .returned (.int .i64 0) ∧ ∃ v', S7 w' b v' (l ++ [10]) false n 0 0 ∧ Next w v v') ∧ (¬ (0 ≤ n ∧ n ≤ 1048576) → e = .returned (.int .i64 1) ∧ S7 w' b v l f x y z) ∧ Kept (Own b v) w w' := by
  have hS := Lib.hid h
  have hmf : ∀ (fn : Fn) (first cap : Array Value) (w : World), (Instr.makeFunc fn first cap).run Tryd.prog w = .ok (.func fn first cap) w := fun _ _ _ _ => rfl
  by_cases h1 : n < 0
  · clear h
    go_enter Tryd.func14, Tryd.ntmps14
    go_wp2
    go_ret
    first | exact ⟨fun hh => by omega, fun _ => ⟨rfl, hS.out⟩, Kept.refl _ _⟩ | exact ⟨⟨rfl, hS.out⟩, Kept.refl _ _⟩ | exact ⟨fun hh => by omega, ⟨rfl, hS.out⟩, Kept.refl _ _⟩
  by_cases h2 : 1048576 < n
  · clear h
    go_enter Tryd.func14, Tryd.ntmps14
    go_wp2
    go_ret
    first | exact ⟨fun hh => by omega, fun _ => ⟨rfl, hS.out⟩, Kept.refl _ _⟩ | exact ⟨⟨rfl, hS.out⟩, Kept.refl _ _⟩ | exact ⟨fun hh => by omega, ⟨rfl, hS.out⟩, Kept.refl _ _⟩
  obtain ⟨L, hL⟩ : ∃ L, l ++ [10] = L := ⟨_, rfl⟩
  have hc := sk_gathF b v l f x y z w h (by omega)
  rw [hL] at hc ⊢
  replace hL := Lib.hid hL; replace hc := Lib.hid hc
  clear h
  go_enter Tryd.func14, Tryd.ntmps14
  go_wp2_with fail
  refine hc.out.mono ?_
  rintro e w2 ⟨rfl, v2, hS2, hn2, hk2⟩
  have q1 := hS2.blk.cell 1; have q2 := hS2.blk.cell 2; have q3 := hS2.blk.cell 3; have q4 := hS2.blk.cell 4
  have f1 := hS2.blk.frozen 1; have f2 := hS2.blk.frozen 2; have f3 := hS2.blk.frozen 3; have f4 := hS2.blk.frozen 4
  simp at q1 q2 q3 q4
  have hS6 := Lib.hid ((((hS2.put1 false).put2 n).put3 0).put4 0)
  have hk6 := Lib.hid ((((hk2.setCell ⟨b, 1, none⟩ (.bool false) (.inl rfl)).setCell ⟨b, 2, none⟩ (.int .i64 n) (.inl rfl)).setCell ⟨b, 3, none⟩ (.int .i64 0) (.inl rfl)).setCell ⟨b, 4, none⟩ (.int .i64 0) (.inl rfl))
  replace hS2 := Lib.hid hS2; replace hn2 := Lib.hid hn2; replace hk2 := Lib.hid hk2
  go_wp2
  go_ret
  have hS6 := hS6.out
  have hk6 := hk6.out
  first | exact ⟨⟨rfl, _, hS6, hn2.out⟩, hk6⟩ | exact ⟨fun _ => ⟨rfl, _, hS6, hn2.out⟩, fun hh => by omega, hk6⟩
set_option maxHeartbeats 4000000 in
set_option maxRecDepth 100000 in
theorem sk_Empty (b : Nat) (v : Value) (l : List UInt8) (f : Bool) (x y z : Int) (w : World) (h : S7 w b v l f x y z) (hl : l.length ≤ 1099511627776) (hx : 0 ≤ x ∧ x ≤ 1048576) :
    Calls Tryd.prog 15 #[.pointer (some ⟨b, 0, none⟩)] w fun e w' => e = .returned (.int .i64 0) ∧ (f = false → ∃ v', S7 w' b v' (l ++ [10]) false x 0 0 ∧ Next w v v') ∧ (f = true → S7 w' b v l f x y z) ∧ Kept (Own b v) w w' := by
  have q0 := h.blk.cell 0; have q1 := h.blk.cell 1; have q2 := h.blk.cell 2
  simp at q0 q1 q2
  have hS := Lib.hid h
  clear h
  cases f
  · go_enter Tryd.func15, Tryd.ntmps15
    go_wp2_with fail
    refine (sk_Feed b v l false x y z x _ hS.out hl).mono ?_
    rintro e w' ⟨hin, _, hk⟩
    obtain ⟨rfl, v', hs', hn'⟩ := hin hx
    replace hs' := Lib.hid hs'; replace hn' := Lib.hid hn'; replace hk := Lib.hid hk
    clear hin
    go_wp2
    go_ret
    first | exact ⟨rfl, ⟨v', hs'.out, hn'.out⟩, hk.out⟩ | exact ⟨rfl, (fun _ => ⟨v', hs'.out, hn'.out⟩), (fun hh => absurd hh (by decide)), hk.out⟩
  · go_enter Tryd.func15, Tryd.ntmps15
    go_wp2
    go_ret
    first | exact ⟨rfl, hS.out, Kept.refl _ _⟩ | exact ⟨rfl, (fun hh => absurd hh (by decide)), (fun _ => hS.out), Kept.refl _ _⟩
end Go.Proofs.YtphcmbdmkhmfbaaDoor
