/- A sink in memory (the program's and the reference's): one block of five cells and the row of bytes that it owns; what a call on it leaves alone. No program text is walked here. -/
import Derived.Test.YtdphhmigbbgjmaaGreatDoorM1
namespace Go.Proofs.YtdphhmigbbgjmaaGreatDoor
open Go.RowKit Go.Lib

/-- Whatever lay in w lies so in w', but for the blocks of 'own'. -/
structure Kept (own : Nat → Prop) (w w' : World) : Prop where
  os : w'.os = w.os
  tape : w'.tape = w.tape
  output : w'.output = w.output
  size : w.heap.size ≤ w'.heap.size
  block : ∀ k, k < w.heap.size → ¬ own k → w'.heap[k]? = w.heap[k]?
theorem Kept.refl (own : Nat → Prop) (w : World) : Kept own w w := ⟨rfl, rfl, rfl, Nat.le_refl _, fun _ _ _ => rfl⟩
theorem Kept.trans {o1 o2 : Nat → Prop} {a b c : World} (h : Kept o1 a b) (k : Kept o2 b c) (hs : ∀ i, i < a.heap.size → o2 i → o1 i) : Kept o1 a c :=
  ⟨k.os.trans h.os, k.tape.trans h.tape, k.output.trans h.output, Nat.le_trans h.size k.size, fun i hi hn => (k.block i (Nat.lt_of_lt_of_le hi h.size) (fun e => hn (hs i hi e))).trans (h.block i hi hn)⟩
theorem Kept.mono {o1 o2 : Nat → Prop} {a b : World} (h : Kept o1 a b) (hs : ∀ i, i < a.heap.size → o1 i → o2 i) : Kept o2 a b :=
  ⟨h.os, h.tape, h.output, h.size, fun i hi hn => h.block i hi (fun e => hn (hs i hi e))⟩
theorem Kept.of_below {own : Nat → Prop} {w w' : World} (h : Below w.heap.size w w') : Kept own w w' := ⟨h.os, h.tape, h.output, h.size, fun k hk _ => h.block k hk⟩
theorem Kept.below {own : Nat → Prop} {B : Nat} {w w' : World} (h : Kept own w w') (hB : B ≤ w.heap.size) (ho : ∀ k, own k → B ≤ k) : Below B w w' :=
  ⟨h.os, h.tape, h.output, h.size, fun k hk => h.block k (by omega) (fun e => by have := ho k e; omega)⟩
theorem Kept.alloc {own : Nat → Prop} {a w : World} (h : Kept own a w) (o : Obj) : Kept own a (w.alloc o) :=
  h.trans (o2 := own) (Kept.of_below ((Below.refl _ _).alloc (Nat.le_refl _) o)) (fun _ _ e => e)
theorem Kept.drew {own : Nat → Prop} {a w : World} (h : Kept own a w) : Kept own a w.drew := ⟨h.os, h.tape, h.output, h.size, h.block⟩
theorem Kept.then {own : Nat → Prop} {a w w' : World} (h : Kept own a w) (k : Below w.heap.size w w') : Kept own a w' := h.trans (o2 := own) (Kept.of_below k) (fun _ _ e => e)
theorem Kept.setCell {own : Nat → Prop} {a w : World} (h : Kept own a w) (p : Addr) (x : Value) (hp : own p.block) : Kept own a (w.setCell p x) :=
  ⟨h.os, h.tape, h.output, by simpa [World.setCell] using h.size, fun k hk hn => (Below.heap_setCell w p x k (fun e => hn (e ▸ hp))).trans (h.block k hk hn)⟩
theorem Kept.grown {own : Nat → Prop} {a w w' : World} {row : Option Nat} (h : Kept own a w) (hg : w.grownBy w' row) (hr : ∀ k, k < a.heap.size → row = some k → own k) : Kept own a w' :=
  ⟨hg.os.trans h.os, hg.tape.trans h.tape, hg.output.trans h.output, Nat.le_trans h.size hg.size, fun k hk hn => (hg.block k (Nat.lt_of_lt_of_le hk h.size) (fun e => hn (hr k hk e.symm))).trans (h.block k hk hn)⟩

/-- The blocks of a sink. -/
def Own (b : Nat) (v : Value) : Nat → Prop := fun k => k = b ∨ v.ownBlock = some k
/-- A sink: its block's five cells, its bytes. -/
structure Snk (T : TypeId) (w : World) (b : Nat) (v : Value) (l : List UInt8) (f : Bool) (x y z : Int) : Prop where
  blk : Blk w b #[v, .bool f, .int .i64 x, .int .i64 y, .int .i64 z] T
  buf : Buf w (b + 1) v l
theorem Blk.kept {own : Nat → Prop} {w w' : World} {b : Nat} {cs : Array Value} {t : TypeId} (h : Blk w b cs t) (k : Kept own w w') (hn : ¬ own b) : Blk w' b cs t := (k.block b h.lt hn).trans h
theorem Buf.kept {own : Nat → Prop} {w w' : World} {B : Nat} {v : Value} {l : List UInt8} (h : Buf w B v l) (k : Kept own w w') (hn : ∀ i, v.ownBlock = some i → ¬ own i) : Buf w' B v l := by
  refine ⟨h.1, ?_⟩
  rcases h.2 with h2 | ⟨g, cap, cur, h1, h2, h3, h4⟩
  · exact .inl h2
  · exact .inr ⟨g, cap, cur, h1, h2, (k.block g (Array.getElem?_eq_some_iff.1 h3).1 (hn g (by subst h1; rfl))).trans h3, h4⟩
/-- Two sinks that share no block. -/
def Dis (b1 : Nat) (v1 : Value) (b2 : Nat) (v2 : Value) : Prop := ∀ k, Own b1 v1 k → ¬ Own b2 v2 k
theorem Dis.symm {b1 b2 : Nat} {v1 v2 : Value} (h : Dis b1 v1 b2 v2) : Dis b2 v2 b1 v1 := fun k h1 h2 => h k h2 h1
theorem Snk.kept {T : TypeId} {w w' : World} {b b2 : Nat} {v v2 : Value} {l : List UInt8} {f : Bool} {x y z : Int} (h : Snk T w b v l f x y z) (k : Kept (Own b2 v2) w w') (hd : Dis b v b2 v2) : Snk T w' b v l f x y z :=
  ⟨h.blk.kept k (hd b (.inl rfl)), h.buf.kept k (fun i hi => hd i (.inr hi))⟩
theorem Snk.below {T : TypeId} {w w' : World} {b : Nat} {v : Value} {l : List UInt8} {f : Bool} {x y z : Int} (h : Snk T w b v l f x y z) (k : Below w.heap.size w w') : Snk T w' b v l f x y z :=
  ⟨h.blk.below' k, h.buf.below k⟩
/-- The row after a call: the one that was, or a new one. -/
def Next (w : World) (v v' : Value) : Prop := ∀ k, v'.ownBlock = some k → v.ownBlock = some k ∨ w.heap.size ≤ k
theorem Next.refl (w : World) (v : Value) : Next w v v := fun _ h => .inl h
theorem Next.trans {w w' : World} {v v' v'' : Value} (h : Next w v v') (hs : w.heap.size ≤ w'.heap.size) (k : Next w' v' v'') : Next w v v'' := fun i hi => by
  rcases k i hi with h1 | h1
  · exact h i h1
  · exact .inr (by omega)
theorem Snk.lt {T : TypeId} {w : World} {b : Nat} {v : Value} {l : List UInt8} {f : Bool} {x y z : Int} (h : Snk T w b v l f x y z) : ∀ k, Own b v k → k < w.heap.size := fun k hk => by
  rcases hk with rfl | hk
  · exact h.blk.lt
  · exact (h.buf.lt k hk).2
theorem Dis.next {T : TypeId} {w : World} {b b2 : Nat} {v v' v2 : Value} {l : List UInt8} {f : Bool} {x y z : Int} (h : Dis b v b2 v2) (s : Snk T w b2 v2 l f x y z) (n : Next w v v') : Dis b v' b2 v2 := fun k h1 h2 => by
  rcases h1 with rfl | h1
  · exact h k (.inl rfl) h2
  · rcases n k h1 with h3 | h3
    · exact h k (.inr h3) h2
    · have := s.lt k h2; omega
end Go.Proofs.YtdphhmigbbgjmaaGreatDoor
