/- The reference's sink (package colophonref06): what its methods do to a sink in memory. Conditions: what is written has at most 2^40 bytes. -/
import Derived.Test.YtphcmbdmkhmfbaaDoorApp
import Derived.Test.YtphcmbdmkhmfbaaDoorRef02
import Derived.OneCell
import Derived.Deep.RegionHeld3
namespace Go.Proofs.YtphcmbdmkhmfbaaDoor
open Go.RowKit Go.Lib

theorem Buf.sh {w : World} {B : Nat} {v : Value} {l : List UInt8} (h : Buf w B v l) : ∃ a n c, v = .slice a n c := by obtain ⟨a, c, e⟩ := h.shape; exact ⟨a, _, c, e⟩
theorem Buf.other {w : World} {B : Nat} {v : Value} {l : List UInt8} (h : Buf w B v l) (p : Addr) (x : Value) (hp : p.block < B) : Buf (w.setCell p x) B v l :=
  ownsRow_setCell_other h (fun e => by have := (h.lt _ e).1; omega) x
theorem Snk.grown {T : TypeId} {w w2 : World} {b : Nat} {v : Value} {l : List UInt8} {f : Bool} {x y z : Int} (h : Snk T w b v l f x y z) (hg : w.grownBy w2 v.ownBlock) : Blk w2 b #[v, .bool f, .int .i64 x, .int .i64 y, .int .i64 z] T :=
  (hg.block b h.blk.lt (fun e => by have := (h.buf.lt b e.symm).1; omega)).trans h.blk
theorem Snk.alloc {T : TypeId} {w : World} {b : Nat} {v : Value} {l : List UInt8} {f : Bool} {x y z : Int} (h : Snk T w b v l f x y z) (o : Obj) : Snk T (w.alloc o) b v l f x y z := ⟨h.blk.alloc o, h.buf.alloc o⟩
theorem Snk.store {T : TypeId} {w : World} {b : Nat} {v v' : Value} {l : List UInt8} {f : Bool} {x y z : Int} (h : Blk w b #[v, .bool f, .int .i64 x, .int .i64 y, .int .i64 z] T) (hb : Buf w (b + 1) v' l) : Snk T (w.setCell ⟨b, 0, none⟩ v') b v' l f x y z :=
  ⟨h.set 0 v', hb.other ⟨b, 0, none⟩ v' (Nat.lt_succ_self b)⟩
theorem Kept.row {a w w' : World} {b : Nat} {v0 v : Value} (h : Kept (Own b v0) a w) (hn : Next a v0 v) (hg : w.grownBy w' v.ownBlock) : Kept (Own b v0) a w' :=
  h.grown hg (fun k hk e => .inr (by rcases hn k e with h1 | h1 <;> first | exact h1 | omega))

abbrev T6 : TypeId := 72
abbrev S6 := Snk T6
set_option maxHeartbeats 4000000 in
theorem r6_New (w : World) : Calls Tryd.prog 23 #[] w fun e w' => e = .returned (.pointer (some ⟨w.heap.size, 0, none⟩)) ∧ S6 w' w.heap.size (.slice none 0 0) [] true 0 0 0 ∧ Below w.heap.size w w' := by
  go_enter Tryd.func23, Tryd.ntmps23
  go_wp2
  go_ret
  exact ⟨rfl, ⟨Blk.new _ _ _, Buf.nil _ _⟩, (Below.refl _ _).alloc (Nat.le_refl _) _⟩
set_option maxHeartbeats 4000000 in
set_option maxRecDepth 100000 in
theorem r6_blanks (b : Nat) (v : Value) (l : List UInt8) (f : Bool) (x y z : Int) (n : Nat) (w : World) (h : S6 w b v l f x y z) (hn : l.length + n ≤ 1099511627776) :
    Calls Tryd.prog 70 #[.pointer (some ⟨b, 0, none⟩), .int .i64 n] w fun e w' => e = .returned (.tuple #[]) ∧ ∃ v', S6 w' b v' (l ++ List.replicate n 32) f x y z ∧ Kept (Own b v) w w' ∧ Next w v v' := by
  replace h := Lib.hid h
  go_enter Tryd.func70, Tryd.ntmps70
  go_wp2
  go_loopw [4] (fun iv W => ∃ (i : Nat) (u : Value), iv = .int .i64 i ∧ i ≤ n ∧ S6 W b u (l ++ List.replicate i 32) f x y z ∧ Kept (Own b v) w W ∧ Next w v u) (fun iv _ => n - (RowKit.intOf iv).toNat)
  case atStart => exact ⟨0, v, rfl, by omega, by simpa using h.out, Kept.refl _ _, Next.refl _ _⟩
  case round =>
    obtain ⟨i, u, rfl, hi, hs, hk, hx⟩ := hrel
    by_cases hlt : i < n
    · have w1 : IntKind.i64.wrap ((i : Int) + 1) = i + 1 := IntWalk.i64_in _ (by omega)
      have q0 := hs.blk.cell 0
      have f0 := hs.blk.frozen 0
      simp at q0
      have hbl := hs.blk.lt
      have hsz : (l ++ List.replicate i (32 : UInt8)).length = l.length + i := by simp
      go_wp2_with (at_builtin; refine app_byte_at rfl _ _ rfl (b + 1) rfl 32 (hs.buf.alloc _) ⟨wr.heap.size, 0, none⟩ 1 rfl (by simp) (by simp; omega) (by simp; omega) ?_; intro v' w2 hv' hg' hx'; obtain ⟨va, vn, vc, rfl⟩ := hv'.sh; have hb2 := (hs.alloc _).grown hg'; have hs3 := Snk.store hb2 hv'; have hk3 := ((hk.alloc _).row hx hg').setCell ⟨b, 0, none⟩ (.slice va vn vc) (.inl rfl); have hx3 := hx.trans (by have := hk.size; simp; omega) hx'; have q0 := hb2.cell 0; have f0 := hb2.frozen 0; simp at q0)
      go_roundw
      case rel =>
        have e : l ++ List.replicate (i + 1) (32 : UInt8) = l ++ List.replicate i 32 ++ [32] := by rw [List.replicate_succ', List.append_assoc]
        exact ⟨i + 1, _, by go_num, by omega, by rw [e]; exact hs3, hk3, hx3⟩
      case measure => simp [RowKit.intOf]; omega
    · have e : i = n := by omega
      subst e
      go_wp2
      exact bodyPost_end (v := .tuple #[]) (by simp [results, Tryd.f70, go_sem]) rfl ⟨rfl, u, hs, hk, hx⟩
end Go.Proofs.YtphcmbdmkhmfbaaDoor
