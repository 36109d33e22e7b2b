/- gathers$1: what was gathered goes behind the sink's row. -/
import Derived.Test.YtphcmbdmkhmfbaaDoorGathT
import Derived.Test.YtphcmbdmkhmfbaaDoorApp
import Derived.Defers
import Derived.Deep.RegionHeld3
import Derived.Deep.RegionLaw
namespace Go.Proofs.YtphcmbdmkhmfbaaDoor
open Go.RowKit Go.Lib
theorem Snk.low {T : TypeId} {w w' : World} {b bb : Nat} {v : Value} {l : List UInt8} {f : Bool} {x y z : Int} (h : Snk T w b v l f x y z) (hs : b < bb) (hv : ∀ k, v.ownBlock = some k → k < bb) (k : Below bb w w') : Snk T w' b v l f x y z :=
  ⟨(k.block b hs).trans h.blk, h.buf.kept (Kept.of_below' (s := bb) k) (fun i hi e => by have := hv i hi; have : i = bb ∨ bb ≤ i := e; omega)⟩
/-- append(v, t...) as a step of a region that draws its order; and where the row lies. -/
theorem step_str {ops : Array Oper} {o : Oper} {a : Act} {w : World} {K : Act → World → Prop} {Q : Exit → Act → World → Prop} {E : Prop}
    (hg : o.guard = none) (s x : Operand) (ho : o.op = .call { callee := .builtin .append, args := #[s, x], argTypes := #[39, 9] }) (B : Nat) {v : Value} {l : List UInt8} (hs : a.eval s = v) (t : ByteArray)
    (hown : Buf w B v l) (hx : a.eval x = .string t) (hsz : l.length + t.size ≤ 140737488355328) (hB : B ≤ w.heap.size)
    (h : ∀ v' w', Buf w' B v' (l ++ t.data.toList) → w.grownBy w' v.ownBlock → Next w v v' → K (a.put o.dst v') w') :
    if Region.wanted o (yielded ops a.tmps) = true then Oper.wp Tryd.prog o a w K Q else E := by
  have hw : Region.wanted o (yielded ops a.tmps) = true := by simp [Region.wanted, hg]
  rw [if_pos hw]
  obtain ⟨i0, hi, hz0, hz1, hz2⟩ := info_parts infoB
  obtain ⟨v', w', hr, h2, h3, h4⟩ := run_str_at (P := Tryd.prog) w B 39 9 o.type 5 i0 Tryd.underlying39 Tryd.underlying9 hi hz0 hz1 hz2 v l.length (byteCells l) hown t hsz hB
  unfold Oper.wp execOp
  simp only [ho, resolve, invoke, builtin, Sem.run_bind, Sem.run_pure, Result.andThen_ok, List.map_toArray, List.map_cons, List.map_nil, hs, hx, hr]
  exact h v' w' (by unfold Buf; rw [List.length_append]; simp only [byteCells, List.map_append, Array.length_toList] at h2 ⊢; exact h2) h3 h4
set_option maxHeartbeats 4000000 in
set_option maxRecDepth 100000 in
theorem sk_puts (s kb bb : Nat) (v : Value) (l m : List UInt8) (f : Bool) (x y z : Int) (u : FrameMode) (w : World) (hS : S7 w s v l f x y z) (hs : s < kb) (hv : ∀ k, v.ownBlock = some k → k < kb) (hkb : w.cell? ⟨kb, 0, none⟩ = some (.pointer (some ⟨s, 0, none⟩))) (hkb2 : kb < bb)
    (hB : Lib.IsBuilderF TB TU bb bb (Lib.byteCells m) w) (hlen : l.length + m.length ≤ 140737488355328) :
    CallsD Tryd.prog 61 #[.pointer (some ⟨kb, 0, none⟩), .pointer (some ⟨bb, 0, none⟩)] u w fun e u' w' => u' = u ∧ (e = .returned (.tuple #[]) ∧ ∃ v', S7 w' s v' (l ++ m) f x y z ∧ Next w v v' ∧ Kept (fun k => Own s v k ∨ bb ≤ k) w w') := by
  have q0 := hS.blk.cell 0
  have f0 := hS.blk.frozen 0
  simp at q0
  have hbl := (by rcases hB with h | h <;> exact Lib.BuilderAtF.lt h : bb < w.heap.size)
  have hS := Lib.hid hS; have hB := Lib.hid hB
  have hc := Lib.hid (Tryd.Builder_String_any_k bb bb m w hB.out (by omega))
  have hcd := Lib.hid (Tryd.Builder_String_any_k bb bb m w.drew hB.out (by show bb ≤ w.heap.size; omega))
  go_enter_d Tryd.func61, Tryd.ntmps61
  go_wp2_with fail
  go_region_law (first
    | ((refine step_str rfl (.tmp 6) (.tmp 7) rfl (s + 1) (by first | rfl | simp [Act.eval, Act.put]) ⟨m.toArray⟩ hS1.out.buf (by first | rfl | simp [Act.eval, Act.put]) (by show l.length + m.toArray.size ≤ _; rw [List.size_toArray]; omega) (by omega) ?_); intro v' w5 hv' hg' hx'; obtain ⟨va, vn, vc, rfl⟩ := hv'.sh; have hb5 := hS1.out.grown hg'; replace hkb : w5.cell? ⟨kb, 0, none⟩ = some (.pointer (some ⟨s, 0, none⟩)) := hg'.cell hkb (fun e => by have := hv kb e.symm; omega); replace hv' := Lib.hid hv'; replace hg' := Lib.hid hg'; replace hx' := Lib.hid hx'; replace q0 := hb5.cell 0; replace f0 := hb5.frozen 0; simp at q0)
    | (go_simp; go_at_call 62; (first | refine hcd.out.mono ?_ | refine hc.out.mono ?_); rintro e w1 ⟨rfl, hB1, hb1, _⟩
       have hb2 : Below bb w w1 := ⟨hb1.os, hb1.tape, hb1.output, hb1.size, hb1.block⟩
       have hz1 := hb2.size
       have hS1 : S7 w1 s v l f x y z := hS.out.low (by omega) (fun k hk => by have := hv k hk; omega) hb2
       replace hb2 := Lib.hid hb2
       replace hS1 := Lib.hid hS1
       replace hkb : w1.cell? ⟨kb, 0, none⟩ = some (.pointer (some ⟨s, 0, none⟩)) := (hb2.out.cell (p := ⟨kb, 0, none⟩) hkb2).trans hkb
       replace q0 := hS1.out.blk.cell 0; replace f0 := hS1.out.blk.frozen 0
       simp at q0
       clear hb1))
  all_goals
    go_end0
    have k1 : Kept (fun k => Own s v k ∨ bb ≤ k) w _ := (Kept.of_below' (s := bb) hb2.out).mono (fun i _ e => .inr (by have : i = bb ∨ bb ≤ i := e; omega))
    exact ⟨rfl, _, Snk.store hb5 hv'.out, (Next.refl w v).trans hz1 hx'.out, (k1.grown hg'.out (fun k hk e => .inl (.inr e))).setCell ⟨s, 0, none⟩ _ (.inl (.inl rfl))⟩
end Go.Proofs.YtphcmbdmkhmfbaaDoor
