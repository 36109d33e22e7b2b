/- A range over the lines of a text, for every loop body that keeps the iterator's own memory. Condition: shorter than 2^62 bytes. -/
import Derived.Test.YtdphhmigbbgjmaaDoorPlaceI
import Derived.RangeFuncOwn
namespace Go.Proofs.YtdphhmigbbgjmaaDoor
open Go.RowKit Go.Lib Go.Shelf
attribute [local go_sem] byteAt_get wrap64_byteAt
attribute [local go_sem] Oper.semAt_some
theorem place_lines (s : ByteArray) (w : World) :
    Calls Tryd.prog 104 #[.string s] w fun e w' => e = .returned (.func (.func 144) #[] #[.pointer (some ⟨w.heap.size, 0, none⟩)]) ∧ w' = w.alloc (.cells #[.string s] 9) := by
  have hmf : ∀ (fn : Fn) (first cap : Array Value) (w : World), (Instr.makeFunc fn first cap).run Tryd.prog w = .ok (.func fn first cap) w := fun _ _ _ _ => rfl
  go_enter Tryd.func104, Tryd.ntmps104
  go_wp2
  go_ret
  exact ⟨rfl, rfl⟩
/-- What a caller's word abides: turns of block B, and of blocks from H on. -/
structure Sim (B H : Nat) (W W' : World) : Prop where
  os : W'.os = W.os
  tape : W'.tape = W.tape
  output : W'.output = W.output
  size : W.heap.size ≤ W'.heap.size
  same : ∀ k, k < H → k ≠ B → W'.heap[k]? = W.heap[k]?
theorem Sim.putObj (B H : Nat) (W : World) (l : Nat) (o : Obj) (h : H ≤ l) : Sim B H W (W.putObj l o) := ⟨rfl, rfl, rfl, by simp [World.putObj], fun k hk _ => World.putObj_heap_other (by omega)⟩
theorem Sim.alloc (B H : Nat) (W : World) (o : Obj) (h : H ≤ W.heap.size) : Sim B H W (W.alloc o) := ⟨rfl, rfl, rfl, by simp, fun k hk _ => Below.heap_alloc _ _ _ (by omega)⟩
theorem Sim.setCell (B H : Nat) (W : World) (o : Nat) (v : Value) : Sim B H W (W.setCell ⟨B, o, none⟩ v) := ⟨rfl, rfl, rfl, by simp [World.setCell], fun k _ hk => Below.heap_setCell _ _ _ _ hk⟩
theorem Sim.drewN (B H : Nat) (W : World) (m : Nat) : Sim B H W (W.drewN m) := ⟨rfl, rfl, rfl, Nat.le_refl _, fun _ _ _ => rfl⟩
theorem Sim.trans {B H : Nat} {X Y Z : World} (h : Sim B H X Y) (k : Sim B H Y Z) : Sim B H X Z := ⟨k.os.trans h.os, k.tape.trans h.tape, k.output.trans h.output, Nat.le_trans h.size k.size, fun i h1 h2 => (k.same i h1 h2).trans (h.same i h1 h2)⟩
theorem Blk.sim {W W' : World} {B H b : Nat} {cs : Array Value} {t : TypeId} (h : Blk W b cs t) (k : Sim B H W W') (h1 : b < H) (h2 : b ≠ B) : Blk W' b cs t := by unfold Blk; rw [k.same b h1 h2]; exact h
/-- What a round keeps: block B, and what lies from H on. -/
def Keep (B H : Nat) (W W' : World) : Prop := ∀ k, (k = B ∨ H ≤ k) → k < W.heap.size → W'.heap[k]? = W.heap[k]?
def rPost (B H : Nat) (I Ix : List Bs → World → Prop) (xs : List Bs) (W : World) : Exit → Act → World → Prop
  | .normal, _, W' => Keep B H W W' ∧ I xs W'
  | .ret, _, W' => Keep B H W W' ∧ Ix xs W'
  | _, _, _ => False
set_option maxHeartbeats 1000000 in
theorem range_lines {g : Operand} {ps : Array Tmp} {assign body : Code} {Q : Exit → Act → World → Prop} {a : Act} {W0 : World} (B : Nat) (s : ByteArray) (hs : s.size < 4611686018427387904)
    (hg : a.eval g = .func (.func 144) #[] #[.pointer (some ⟨B, 0, none⟩)]) (hB : Blk W0 B #[.string s] 9) (hps : ps.size = 1)
    (I Ix : List Bs → World → Prop) (hI : ∀ xs W W', I xs W → Sim B W0.heap.size W W' → I xs W') (hIx : ∀ xs W W', Ix xs W → Sim B W0.heap.size W W' → Ix xs W') (h0 : I [] W0) (a₁ : ByteArray → Act)
    (hassign : ∀ (l : Nat) (x : ByteArray) (W : World) (K : Act → World → Prop), K (a₁ x) W →
      assign.wpIn (Fence.wide.inRound l) 1 Tryd.prog (Exit.then K (fun _ _ _ => False)) { tmps := (ps.zip #[.string x]).foldl (fun t (p, v) => t.setIfInBounds p v) a.tmps, defers := [] } W)
    (hbody : ∀ (l : Nat) (pre : List Bs) (x : ByteArray) (W : World), I pre W → (pre ++ [x.data.toList]) <+: linesOf s.data.toList → W0.heap.size ≤ W.heap.size → body.wpIn (Fence.wide.inRound l) 1 Tryd.prog (rPost B W0.heap.size I Ix (pre ++ [x.data.toList]) W) (a₁ x) W)
    (hdone : ∀ W, I (linesOf s.data.toList) W → W.heap[W0.heap.size]? = some (.deferred (some [])) → Q .normal { a with defers := { target := .collected W0.heap.size, args := #[] } :: a.defers } W)
    (hstop : ∀ pre W, pre <+: linesOf s.data.toList → Ix pre W → W.heap[W0.heap.size]? = some (.deferred (some [])) → Code.ret.wpIn Fence.wide 3 Tryd.prog Q { a with defers := { target := .collected W0.heap.size, args := #[] } :: a.defers } W) :
    (Code.rangeFunc g ps assign body).wpIn Fence.wide 3 Tryd.prog Q a W0 := by
  refine wpIn_rangeFunc ?_
  intro fn hfn
  obtain ⟨rec, hrec⟩ : ∃ rec : LoopState → Option Code → Loop, rec = fun st pe => { state := st, pending := pe, fn, tmps := a.tmps, params := ps, assign, body, defers := W0.heap.size } := ⟨_, rfl⟩
  obtain ⟨W1, hW1⟩ : ∃ W1, (W0.alloc (.deferred (some []))).alloc (.loop (rec .ready none)) = W1 := ⟨_, rfl⟩
  have hL1 : W1.heap[W0.heap.size + 1]? = some (.loop (rec .ready none)) := by
    rw [← hW1]; have := World.alloc_heap_new (W0.alloc (.deferred (some []))) (.loop (rec .ready none)); rwa [World.size_alloc] at this
  have hK1 : W1.heap[W0.heap.size]? = some (.deferred (some [])) := by
    rw [← hW1]; exact (Below.heap_alloc _ _ _ (by simp)).trans (World.alloc_heap_new W0 _)
  have hS1 : Sim B W0.heap.size W0 W1 := by rw [← hW1]; exact (Sim.alloc _ _ _ _ (Nat.le_refl _)).trans (Sim.alloc _ _ _ _ (by simp))
  have hB1 : Blk W1 B #[.string s] 9 := by rw [← hW1]; exact (hB.alloc _).alloc _
  have hBl := hB.lt
  refine ⟨W0.heap.size + 1, [{ target := .collected W0.heap.size, args := #[] }], W1, { target := .fn (.func 144) #[.pointer (some ⟨B, 0, none⟩)], args := #[.func (.yield (W0.heap.size + 1)) #[] #[]] }, W1, 144, #[.func (.yield (W0.heap.size + 1)) #[] #[], .pointer (some ⟨B, 0, none⟩)], W1, ?_, ?_, ?_, ?_, fun _ => by omega, ?_⟩
  · rw [← hW1, hrec]; exact run_enterLoop_outer _ _ _ _ _
  · simp only [resolve, hg]
    simp [go_sem]
  · intro f' _; trivial
  · simp [invoke, go_sem]
  · refine (lines_iter (3 - 1) (by omega) (W0.heap.size + 1) B s hs
      (fun pre cur W => I pre W ∧ Blk W B #[.string cur] 9 ∧ W.heap[W0.heap.size + 1]? = some (.loop (rec .ready none)) ∧ W.heap[W0.heap.size]? = some (.deferred (some [])))
      (fun pre W => Ix pre W ∧ W.heap[W0.heap.size + 1]? = some (.loop (rec .done (some .ret))) ∧ W.heap[W0.heap.size]? = some (.deferred (some [])))
      (fun pre cur W h => ⟨by rw [h.2.1.cell 0]; rfl, h.2.1.frozen 0⟩)
      (fun pre cur cur' W h => ⟨hI _ _ _ h.1 (Sim.setCell _ _ _ _ _), by have := h.2.1.set 0 (.string cur'); simpa using this, (Below.heap_setCell _ _ _ _ (by simp; omega)).trans h.2.2.1, (Below.heap_setCell _ _ _ _ (by simp; omega)).trans h.2.2.2⟩)
      (fun pre cur W m h => ⟨hI _ _ _ h.1 (Sim.drewN _ _ _ _), h.2.1, h.2.2.1, h.2.2.2⟩) ?_ W1 ⟨hI _ _ _ h0 hS1, hB1, hL1, hK1⟩).mono ?_
    · rintro pre cur x W ⟨hi, hb, hl, hk⟩ hpre
      have hlt : W0.heap.size + 1 < W.heap.size := (Array.getElem?_eq_some_iff.1 hl).1
      have hy := run_yield (P := Tryd.prog) (args := #[.string x]) hl (by rw [hrec]; exact hps.symm)
      rw [hrec] at hy
      obtain ⟨W2, hW2⟩ : ∃ W2, W.putObj (W0.heap.size + 1) (.loop { rec .ready none with state := .busy }) = W2 := ⟨_, rfl⟩
      have hl2 : W2.heap[W0.heap.size + 1]? = some (.loop { rec .ready none with state := .busy }) := by rw [← hW2]; exact World.putObj_heap_same hlt
      have hk2 : W2.heap[W0.heap.size]? = some (.deferred (some [])) := by rw [← hW2]; exact (World.putObj_heap_other (by omega)).trans hk
      have hb2 : Blk W2 B #[.string cur] 9 := by unfold Blk; rw [← hW2]; exact (World.putObj_heap_other (by omega)).trans hb
      have hz2 : W2.heap.size = W.heap.size := by rw [← hW2]; simp [World.putObj]
      refine ⟨fn, _, assign, body, hy, roundIn_of_wpIn hfn (hassign _ x W _ ⟨W2, by rw [← hW2]; exact run_beginRound hl (by rw [hrec]), ?_⟩)⟩
      refine wpIn_mono (hbody _ pre x W2 (hI _ _ _ hi (by rw [← hW2]; exact Sim.putObj _ _ _ _ _ (by omega))) hpre (by omega)) ?_
      have fin : ∀ (jump : Option Code) (W3 : World), Keep B W0.heap.size W2 W3 →
          (Instr.endRound (W0.heap.size + 1) jump).run Tryd.prog W3 = .ok (.bool jump.isNone) (W3.putObj (W0.heap.size + 1) (.loop (rec (if jump.isNone then .ready else .done) jump))) ∧
          (W3.putObj (W0.heap.size + 1) (.loop (rec (if jump.isNone then .ready else .done) jump))).heap[W0.heap.size + 1]? = some (.loop (rec (if jump.isNone then .ready else .done) jump)) ∧
          (W3.putObj (W0.heap.size + 1) (.loop (rec (if jump.isNone then .ready else .done) jump))).heap[W0.heap.size]? = some (.deferred (some [])) ∧
          Blk (W3.putObj (W0.heap.size + 1) (.loop (rec (if jump.isNone then .ready else .done) jump))) B #[.string cur] 9 := fun jump W3 hk3 => by
        have hl3 := (hk3 (W0.heap.size + 1) (.inr (by omega)) (by omega)).trans hl2
        have := run_endRound (P := Tryd.prog) jump hl3
        rw [hrec] at this ⊢
        refine ⟨this, World.putObj_heap_same (Array.getElem?_eq_some_iff.1 hl3).1, (World.putObj_heap_other (by omega)).trans ((hk3 _ (.inr (by omega)) (by omega)).trans hk2), ?_⟩
        exact (World.putObj_heap_other (by omega)).trans ((hk3 _ (.inl rfl) (by omega)).trans hb2)
      rintro e a3 W3 hp
      cases e with
      | normal =>
        obtain ⟨hkp, hi3⟩ := hp
        obtain ⟨hr, q1, q2, q3⟩ := fin none W3 hkp
        exact ⟨_, _, hr, .inl ⟨rfl, hI _ _ _ hi3 (Sim.putObj _ _ _ _ _ (by omega)), q3, q1, q2⟩⟩
      | ret =>
        obtain ⟨hkp, hi3⟩ := hp
        obtain ⟨hr, q1, q2, q3⟩ := fin (some .ret) W3 hkp
        exact ⟨_, _, hr, .inr ⟨rfl, hIx _ _ _ hi3 (Sim.putObj _ _ _ _ _ (by omega)), q1, q2⟩⟩
      | exit id => exact hp.elim
      | goto t => exact hp.elim
      | panic ch => exact hp.elim
      | outgrown => exact hp.elim
    · rintro e W2 ⟨⟨v, rfl⟩, (⟨cur, hi, hb, hl, hk⟩ | ⟨pre, hpre, hi, hl, hk⟩)⟩
      · exact ⟨none, _, by have := run_endLoop (P := Tryd.prog) hl (by rw [hrec]; simp); rw [hrec] at this; exact this, hdone _ (hI _ _ _ hi (Sim.putObj _ _ _ _ _ (by omega))) ((World.putObj_heap_other (by omega)).trans hk)⟩
      · exact ⟨some .ret, _, by have := run_endLoop (P := Tryd.prog) hl (by rw [hrec]; simp); rw [hrec] at this; exact this, hstop pre _ hpre (hIx _ _ _ hi (Sim.putObj _ _ _ _ _ (by omega))) ((World.putObj_heap_other (by omega)).trans hk)⟩

end Go.Proofs.YtdphhmigbbgjmaaDoor
