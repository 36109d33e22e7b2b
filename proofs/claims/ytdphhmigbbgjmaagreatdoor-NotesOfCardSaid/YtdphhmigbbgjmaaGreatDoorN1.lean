/- A walk through the tokens of a source for its comments: the iterator of package notes. Condition: the loop's body keeps the tokens' own memory. A range over the comments among tokens, for every loop body that keeps the loop's own memory and goes on. Condition: the caller's word is kept where only the loop's own two blocks change and blocks are added. notes.all: a source's tokens, or a Fault. Conditions: the tables of package class lie as laid; the source has at most 2^26 bytes. notes.Of: a source's comments, or a Fault. Conditions: as NotA says. -/
import Derived.Test.YtdphhmigbbgjmaaGreatDoorM1
import Derived.Test.YtdphhmigbbgjmaaGreatDoorProg
import Derived.RangeFuncOwn
import Derived.RangeFuncCalls
import Derived.RangeFuncLeaves
import Derived.RangeFuncRecord
import Derived.RangeFuncSeq
import Derived.Shelf.Abstract
import Derived.OwnWalkIn
import Derived.TacticsInMore
import Derived.LoopNIn
import Derived.LoopIn
import Derived.Lib.Hide
import Derived.Test.YtdphhmigbbgjmaaGreatDoorM5
import Derived.Test.YtdphhmigbbgjmaaGreatDoorPScan
import Derived.Deep.RegionWith
section
namespace Go.Proofs.YtdphhmigbbgjmaaGreatDoor
open Go.RowKit Go.Lib Go.Shelf
set_option linter.unusedVariables false
attribute [local go_sem] Oper.semAt_some
/-- A token. -/
structure Tk where
  k : Int
  s : ByteArray
  a : Int
  l : Int
  c : Int
  f : Int
def Tk.cells (t : Tk) : Array Value := #[.int .u8 t.k, .string t.s, .int .i64 t.a, .int .i64 t.l, .int .i64 t.c, .int .i64 t.f]
def Tk.note (t : Tk) : Bool := (t.k == 7) || (t.k == 8)
/-- How many of them are no comments. -/
def plainN (L : List Tk) : Nat := (L.filter fun t => !t.note).length
theorem plainN_le (L : List Tk) : plainN L ≤ L.length := List.length_filter_le _ _
theorem plainN_add (L : List Tk) (t : Tk) : plainN (L ++ [t]) = plainN L + if t.note then 0 else 1 := by
  unfold plainN; rw [List.filter_append, List.length_append]; cases h : t.note <;> simp [h]
set_option maxHeartbeats 4000000 in
theorem comments_iter (n : Nat) (hn : 1 ≤ n) (l B cap : Nat) (ra : Option Addr) (L : List Tk) (hL : L.length ≤ 1099511627776)
    (J : List Tk → World → Prop)
    (hcell : ∀ pre W, J pre W → W.cell? ⟨B, 0, none⟩ = some (.slice ra L.length cap))
    (hrow : ∀ pre W, J pre W → ∀ i (hi : i < L.length), ∃ g, ra = some ⟨g, 0, none⟩ ∧ W.cell? ⟨g, i * 6, none⟩ = some (.int .u8 L[i].k) ∧ W.cell? ⟨g, i * 6 + 1, none⟩ = some (.string L[i].s) ∧ W.cell? ⟨g, i * 6 + 2, none⟩ = some (.int .i64 L[i].a) ∧ W.cell? ⟨g, i * 6 + 3, none⟩ = some (.int .i64 L[i].l) ∧ W.cell? ⟨g, i * 6 + 4, none⟩ = some (.int .i64 L[i].c) ∧ W.cell? ⟨g, i * 6 + 5, none⟩ = some (.int .i64 L[i].f))
    (halloc : ∀ pre W o, J pre W → J pre (W.alloc o))
    (hskip : ∀ pre t W, J pre W → t.note = false → J (pre ++ [t]) W)
    (hY : ∀ pre (t : Tk) W, J pre W → (pre ++ [t]) <+: L → t.note = true → YieldAt Fence.wide (n - 1) Tryz.prog l #[.int .i64 (plainN pre), .agg t.cells] W fun e W' => e = .returned (.bool true) ∧ J (pre ++ [t]) W')
    (W : World) (h0 : J [] W) :
    CallsIn Fence.wide n Tryz.prog 23 #[.func (.yield l) #[] #[], .pointer (some ⟨B, 0, none⟩)] W fun e W' => (∃ v, e = .returned v) ∧ J L W' := by
  have hb0 := hcell _ _ h0
  refine callsIn_of_wp Tryz.func23 rfl trivial ?_ rfl
  simp only [Tryz.ntmps23, List.size_toArray, List.length_cons, List.length_nil, Nat.reduceAdd, Nat.reduceSub, Array.replicate_succ, Array.replicate_zero, List.push_toArray, List.append_toArray, List.nil_append, List.cons_append]
  gi_wp2
  gi_loopw [3, 8] (fun aa ii wr => ∃ (i : Nat), i ≤ L.length ∧ ii = .int .i64 i ∧ aa = .int .i64 (plainN (L.take i)) ∧ J (L.take i) wr) (fun _ ii _ => L.length - (RowKit.intOf ii).toNat)
  case atStart => exact ⟨0, Nat.zero_le _, rfl, by simp [plainN], by simpa using h0⟩
  case round =>
    obtain ⟨i, hi, rfl, rfl, hJ⟩ := hrel
    by_cases hlt : i < L.length
    · obtain ⟨g, hra, c0, c1, c2, c3, c4, c5⟩ := hrow _ _ hJ i hlt
      subst hra
      have hnx : L.take (i + 1) = L.take i ++ [L[i]] := by rw [List.take_succ_eq_append_getElem hlt]
      have hpn := plainN_add (L.take i) L[i]
      have hple := plainN_le (L.take i)
      rw [List.length_take] at hple
      have hal := halloc _ _ (.cells L[i].cells 48) hJ
      unfold Tk.cells at hal
      obtain ⟨x, hx⟩ : ∃ x, L[i] = x := ⟨_, rfl⟩
      have hyy := hY (L.take i) L[i]
      have hsk := hskip (L.take i) L[i]
      have hpre : (L.take i ++ [L[i]]) <+: L := by rw [← hnx]; exact List.take_prefix _ _
      rw [← hnx] at hyy hsk hpre
      rw [← hnx] at hpn
      generalize hA : plainN (L.take i) = A at *
      obtain ⟨tk, ts, ta, tl, tc, tf⟩ := x
      rw [hx] at c0 c1 c2 c3 c4 c5 hpn hyy hsk hal
      simp only at c0 c1 c2 c3 c4 c5 hal
      by_cases h7 : tk = 7
      · subst h7
        have hnt : (Tk.mk 7 ts ta tl tc tf).note = true := by unfold Tk.note; simp
        rw [hnt] at hpn
        obtain ⟨fn, tmps, assign, body, hy, hR⟩ := hyy _ hal hpre hnt
        unfold Tk.cells at hy
        clear hyy hsk
        replace hpn := Lib.hid hpn
        gi_wp2
        refine hR.mono ?_
        rintro e W3 ⟨rfl, hJ3⟩
        gi_wp2
        go_roundw
        case rel => exact ⟨i + 1, by omega, congrArg (Value.int IntKind.i64) (by omega), by rw [hpn.out]; exact congrArg (Value.int IntKind.i64) (by simp), hJ3⟩
        case measure => simp [RowKit.intOf]; omega
      · by_cases h8 : tk = 8
        · subst h8
          clear h7
          have hnt : (Tk.mk 8 ts ta tl tc tf).note = true := by unfold Tk.note; simp
          rw [hnt] at hpn
          obtain ⟨fn, tmps, assign, body, hy, hR⟩ := hyy _ hal hpre hnt
          unfold Tk.cells at hy
          clear hyy hsk
          replace hpn := Lib.hid hpn
          gi_wp2
          refine hR.mono ?_
          rintro e W3 ⟨rfl, hJ3⟩
          gi_wp2
          go_roundw
          case rel => exact ⟨i + 1, by omega, congrArg (Value.int IntKind.i64) (by omega), by rw [hpn.out]; exact congrArg (Value.int IntKind.i64) (by simp), hJ3⟩
          case measure => simp [RowKit.intOf]; omega
        · have x7 : (tk != 7) = true := by simp [h7]
          have x8 : (tk != 8) = true := by simp [h8]
          have hno : (Tk.mk tk ts ta tl tc tf).note = false := by unfold Tk.note; simp [h7, h8]
          rw [hno] at hpn
          have hJ2 := hsk _ hal hno
          clear hyy hsk h7 h8
          replace hpn := Lib.hid hpn
          gi_wp2
          go_roundw
          case rel => exact ⟨i + 1, by omega, congrArg (Value.int IntKind.i64) (by omega), by rw [hpn.out]; exact congrArg (Value.int IntKind.i64) (by simp), hJ2⟩
          case measure => simp [RowKit.intOf]; omega
    · have he : i = L.length := by omega
      subst he
      rw [List.take_length] at hJ
      gi_wp2
      go_end0
      exact ⟨⟨_, rfl⟩, hJ⟩
end Go.Proofs.YtdphhmigbbgjmaaGreatDoor
end
section
namespace Go.Proofs.YtdphhmigbbgjmaaGreatDoor
open Go.RowKit Go.Lib Go.Shelf
set_option linter.unusedVariables false
attribute [local go_sem] Oper.semAt_some
theorem notes_comments (b : Option Addr) (n m : Nat) (w : World) :
    Calls Tryz.prog 14 #[.slice b n m] w fun e w' => e = .returned (.func (.func 23) #[] #[.pointer (some ⟨w.heap.size, 0, none⟩)]) ∧ w' = w.alloc (.cells #[.slice b n m] 42) := by
  have hmf : ∀ (fn : Fn) (first cap : Array Value) (w : World), (Instr.makeFunc fn first cap).run Tryz.prog w = .ok (.func fn first cap) w := fun _ _ _ _ => rfl
  go_enter Tryz.func14, Tryz.ntmps14
  go_wp2
  go_ret
  exact ⟨rfl, rfl⟩
/-- What a caller's word abides: turns of the loop's own two blocks, and new blocks. -/
structure Sm (H : Nat) (W W' : World) : Prop where
  os : W'.os = W.os
  tape : W'.tape = W.tape
  output : W'.output = W.output
  size : W.heap.size ≤ W'.heap.size
  same : ∀ k, k < W.heap.size → k ≠ H → k ≠ H + 1 → W'.heap[k]? = W.heap[k]?
theorem Sm.putObj (H : Nat) (W : World) (l : Nat) (o : Obj) (h : l = H ∨ l = H + 1) : Sm H W (W.putObj l o) := ⟨rfl, rfl, rfl, by simp [World.putObj], fun k _ h1 h2 => World.putObj_heap_other (by omega)⟩
theorem Sm.alloc (H : Nat) (W : World) (o : Obj) : Sm H W (W.alloc o) := ⟨rfl, rfl, rfl, by simp, fun k hk _ _ => Below.heap_alloc _ _ _ hk⟩
theorem Sm.trans {H : Nat} {X Y Z : World} (h : Sm H X Y) (k : Sm H Y Z) : Sm H X Z := ⟨k.os.trans h.os, k.tape.trans h.tape, k.output.trans h.output, Nat.le_trans h.size k.size, fun i h1 h2 h3 => (k.same i (Nat.lt_of_lt_of_le h1 h.size) h2 h3).trans (h.same i h1 h2 h3)⟩
/-- What a round keeps: the loop's own two blocks. -/
def Kp (H : Nat) (W W' : World) : Prop := ∀ k, (k = H ∨ k = H + 1) → W'.heap[k]? = W.heap[k]?
def rPs (H : Nat) (I : List Tk → World → Prop) (xs : List Tk) (W : World) : Exit → Act → World → Prop
  | .normal, _, W' => Kp H W W' ∧ I xs W'
  | _, _, _ => False
set_option maxHeartbeats 1000000 in
theorem range_comments {g : Operand} {ps : Array Tmp} {assign body : Code} {Q : Exit → Act → World → Prop} {a : Act} {W0 : World} (B cap : Nat) (ra : Option Addr) (L : List Tk) (hL : L.length ≤ 1099511627776)
    (hg : a.eval g = .func (.func 23) #[] #[.pointer (some ⟨B, 0, none⟩)]) (hps : ps.size = 2)
    (I : List Tk → World → Prop) (hI : ∀ xs W W', I xs W → Sm W0.heap.size W W' → I xs W')
    (hcell : ∀ pre W, I pre W → W.cell? ⟨B, 0, none⟩ = some (.slice ra L.length cap))
    (hrow : ∀ pre W, I pre W → ∀ i (hi : i < L.length), ∃ g, ra = some ⟨g, 0, none⟩ ∧ W.cell? ⟨g, i * 6, none⟩ = some (.int .u8 L[i].k) ∧ W.cell? ⟨g, i * 6 + 1, none⟩ = some (.string L[i].s) ∧ W.cell? ⟨g, i * 6 + 2, none⟩ = some (.int .i64 L[i].a) ∧ W.cell? ⟨g, i * 6 + 3, none⟩ = some (.int .i64 L[i].l) ∧ W.cell? ⟨g, i * 6 + 4, none⟩ = some (.int .i64 L[i].c) ∧ W.cell? ⟨g, i * 6 + 5, none⟩ = some (.int .i64 L[i].f))
    (hskip : ∀ pre t W, I pre W → t.note = false → I (pre ++ [t]) W) (h0 : I [] W0) (a₁ : Nat → Tk → Nat → Act)
    (hassign : ∀ (l m : Nat) (t : Tk) (W : World) (K : Act → World → Prop), K (a₁ m t W.heap.size) (W.alloc (.cells t.cells 48)) →
      assign.wpIn (Fence.wide.inRound l) 1 Tryz.prog (Exit.then K (fun _ _ _ => False)) { tmps := (ps.zip #[.int .i64 m, .agg t.cells]).foldl (fun t (p, v) => t.setIfInBounds p v) a.tmps, defers := [] } W)
    (hbody : ∀ (l : Nat) (pre : List Tk) (t : Tk) (q : Nat) (W : World), I pre W → (pre ++ [t]) <+: L → t.note = true → W0.heap.size + 2 ≤ q → Blk W q t.cells 48 → (∀ k o, (k = W0.heap.size ∨ k = W0.heap.size + 1) → W.heap[k]? = some o → ∀ c e fz, o ≠ .cells c e fz) → body.wpIn (Fence.wide.inRound l) 1 Tryz.prog (rPs W0.heap.size I (pre ++ [t]) W) (a₁ (plainN pre) t q) W)
    (hdone : ∀ W, I L W → W.heap[W0.heap.size]? = some (.deferred (some [])) → Q .normal { a with defers := { target := .collected W0.heap.size, args := #[] } :: a.defers } W) :
    (Code.rangeFunc g ps assign body).wpIn Fence.wide 3 Tryz.prog Q a W0 := by
  refine wpIn_rangeFunc ?_
  intro fn hfn
  obtain ⟨rec, hrec⟩ : ∃ rec : LoopState → Option Code → Loop, rec = fun st pe => { state := st, pending := pe, fn, tmps := a.tmps, params := ps, assign, body, defers := W0.heap.size } := ⟨_, rfl⟩
  obtain ⟨W1, hW1⟩ : ∃ W1, (W0.alloc (.deferred (some []))).alloc (.loop (rec .ready none)) = W1 := ⟨_, rfl⟩
  have hL1 : W1.heap[W0.heap.size + 1]? = some (.loop (rec .ready none)) := by
    rw [← hW1]; have := World.alloc_heap_new (W0.alloc (.deferred (some []))) (.loop (rec .ready none)); rwa [World.size_alloc] at this
  have hK1 : W1.heap[W0.heap.size]? = some (.deferred (some [])) := by
    rw [← hW1]; exact (Below.heap_alloc _ _ _ (by simp)).trans (World.alloc_heap_new W0 _)
  have hS1 : Sm W0.heap.size W0 W1 := by rw [← hW1]; exact (Sm.alloc _ _ _).trans (Sm.alloc _ _ _)
  refine ⟨W0.heap.size + 1, [{ target := .collected W0.heap.size, args := #[] }], W1, { target := .fn (.func 23) #[.pointer (some ⟨B, 0, none⟩)], args := #[.func (.yield (W0.heap.size + 1)) #[] #[]] }, W1, 23, #[.func (.yield (W0.heap.size + 1)) #[] #[], .pointer (some ⟨B, 0, none⟩)], W1, ?_, ?_, ?_, ?_, ?_⟩
  · rw [← hW1, hrec]; exact run_enterLoop_outer _ _ _ _ _
  · simp only [resolve, hg]
    simp [go_sem]
  · intro f' _; trivial
  · simp [invoke, go_sem]
  · refine ⟨fun _ => by omega, ?_⟩
    refine (comments_iter (3 - 1) (by omega) (W0.heap.size + 1) B cap ra L hL
      (fun pre W => I pre W ∧ W.heap[W0.heap.size + 1]? = some (.loop (rec .ready none)) ∧ W.heap[W0.heap.size]? = some (.deferred (some [])))
      (fun pre W h => hcell pre W h.1)
      (fun pre W h => hrow pre W h.1)
      (fun pre W o h => ⟨hI _ _ _ h.1 (Sm.alloc _ _ _), (Below.heap_alloc _ _ _ (Array.getElem?_eq_some_iff.1 h.2.1).1).trans h.2.1, (Below.heap_alloc _ _ _ (Array.getElem?_eq_some_iff.1 h.2.2).1).trans h.2.2⟩)
      (fun pre t W h hn => ⟨hskip _ _ _ h.1 hn, h.2⟩) ?_ W1 ⟨hI _ _ _ h0 hS1, hL1, hK1⟩).mono ?_
    · rintro pre t W ⟨hi, hl, hk⟩ hpre hnt
      have hlt : W0.heap.size + 1 < W.heap.size := (Array.getElem?_eq_some_iff.1 hl).1
      have hy := run_yield (P := Tryz.prog) (args := #[.int .i64 (plainN pre), .agg t.cells]) hl (by rw [hrec]; exact hps.symm)
      rw [hrec] at hy
      refine ⟨fn, _, assign, body, hy, roundIn_of_wpIn hfn (hassign _ _ t W _ ?_)⟩
      obtain ⟨Wa, hWa⟩ : ∃ Wa, W.alloc (.cells t.cells 48) = Wa := ⟨_, rfl⟩
      have hla : Wa.heap[W0.heap.size + 1]? = some (.loop (rec .ready none)) := by rw [← hWa]; exact (Below.heap_alloc _ _ _ hlt).trans hl
      have hka : Wa.heap[W0.heap.size]? = some (.deferred (some [])) := by rw [← hWa]; exact (Below.heap_alloc _ _ _ (by omega)).trans hk
      have hba : Blk Wa W.heap.size t.cells 48 := by rw [← hWa]; exact Blk.new _ _ _
      have hia := hI _ _ Wa hi (by rw [← hWa]; exact Sm.alloc _ _ _)
      have hza : W0.heap.size + 1 < Wa.heap.size := (Array.getElem?_eq_some_iff.1 hla).1
      rw [hWa]
      obtain ⟨W2, hW2⟩ : ∃ W2, Wa.putObj (W0.heap.size + 1) (.loop { rec .ready none with state := .busy }) = W2 := ⟨_, rfl⟩
      have hl2 : W2.heap[W0.heap.size + 1]? = some (.loop { rec .ready none with state := .busy }) := by rw [← hW2]; exact World.putObj_heap_same hza
      have hk2 : W2.heap[W0.heap.size]? = some (.deferred (some [])) := by rw [← hW2]; exact (World.putObj_heap_other (by omega)).trans hka
      have hb2 : Blk W2 W.heap.size t.cells 48 := by unfold Blk; rw [← hW2]; exact (World.putObj_heap_other (by omega)).trans hba
      have hi2 := hI _ _ W2 hia (by rw [← hW2]; exact Sm.putObj _ _ _ _ (.inr rfl))
      refine ⟨W2, by rw [← hW2]; exact run_beginRound hla (by rw [hrec]), ?_⟩
      refine wpIn_mono (hbody _ pre t W.heap.size W2 hi2 hpre hnt (by omega) hb2 (fun k o hk ho c e fz hc => by
        rcases hk with rfl | rfl
        · rw [hk2] at ho; rw [← Option.some.inj ho] at hc; cases hc
        · rw [hl2] at ho; rw [← Option.some.inj ho] at hc; cases hc)) ?_
      rintro e a3 W3 hp
      cases e with
      | normal =>
        obtain ⟨hkp, hi3⟩ := hp
        have hl3 := (hkp (W0.heap.size + 1) (.inr rfl)).trans hl2
        have hr := run_endRound (P := Tryz.prog) none hl3
        rw [hrec] at hr
        refine ⟨_, _, hr, rfl, hI _ _ _ hi3 (Sm.putObj _ _ _ _ (.inr rfl)), ?_, ?_⟩
        · rw [hrec]; exact World.putObj_heap_same (Array.getElem?_eq_some_iff.1 hl3).1
        · exact (World.putObj_heap_other (by omega)).trans ((hkp _ (.inl rfl)).trans hk2)
      | ret => exact hp.elim
      | exit id => exact hp.elim
      | goto t => exact hp.elim
      | panic ch => exact hp.elim
      | outgrown => exact hp.elim
    · rintro e W2 ⟨⟨v, rfl⟩, hi, hl, hk⟩
      exact ⟨none, _, by have := run_endLoop (P := Tryz.prog) hl (by rw [hrec]; simp); rw [hrec] at this; exact this, hdone _ (hI _ _ _ hi (Sm.putObj _ _ _ _ (.inr rfl))) ((World.putObj_heap_other (by omega)).trans hk)⟩
end Go.Proofs.YtdphhmigbbgjmaaGreatDoor
end
section
namespace Go.Proofs.YtdphhmigbbgjmaaGreatDoor
open Go.RowKit Go.Lib
attribute [local go_sem] byteAt_get wrap64_byteAt
open PScan
open Go.Proofs.YtdphhmigbbgjmaaGreatDoorW.PrintWords
set_option linter.unusedVariables false
set_option maxHeartbeats 4000000 in
theorem notes_all_ok (s : ByteArray) (hs : s.size ≤ 67108864) (h0 : (allV s).2.1 = 0) (w : World) (hT : Clas w) :
    Calls Tryz.prog 13 #[.string s] w fun e w' => ∃ v, e = .returned (.tuple #[v, .nilIface]) ∧ Kd.R k48 48 w' w.heap.size (fun _ => True) v (allV s).1 ∧ Below w.heap.size w w' := by
  have hA := scan_All.calls (s.size + 7) s (allV s).1 (allV s).2.1 (allV s).2.2.1 (allV s).2.2.2.1 (allV s).2.2.2.2 w (all_f s (by omega)) hT
  rw [h0] at hA
  obtain ⟨x, y, z, hx⟩ : ∃ x y z, (allV s).2.2 = (x, y, z) := ⟨_, _, _, rfl⟩
  rw [hx] at hA
  simp only at hA
  generalize (allV s).1 = L at *
  clear hx h0
  go_enter Tryz.func13, Tryz.ntmps13
  go_wp2_with (go_at_call 22; refine hA.mono ?_; rintro e w1 ⟨v, rfl, hR, hb⟩; have hR2 := Kd.R_alloc hR (.cells #[.int .i64 x, .int .i64 y, .int .i64 z] 26); have hb2 := hb.alloc hb.size (.cells #[.int .i64 x, .int .i64 y, .int .i64 z] 26))
  go_ret2
  exact ⟨v, rfl, hR2, hb2⟩
set_option maxHeartbeats 4000000 in
theorem notes_all_no (s : ByteArray) (hs : s.size ≤ 67108864) (c x y z : Int) (hc : c ≠ 0) (h0 : (allV s).2 = (c, x, y, z)) (w : World) (hT : Clas w) :
    Calls Tryz.prog 13 #[.string s] w fun e w' => ∃ b, e = .returned (.tuple #[.slice none 0 0, .iface 55 (.pointer (some ⟨b, 0, none⟩))]) ∧ w.heap.size ≤ b ∧ Blk w' b #[.int .i64 c, .int .i64 x, .int .i64 y, .int .i64 z] 28 ∧ Below w.heap.size w w' := by
  have hA := scan_All.calls (s.size + 7) s (allV s).1 (allV s).2.1 (allV s).2.2.1 (allV s).2.2.2.1 (allV s).2.2.2.2 w (all_f s (by omega)) hT
  rw [h0] at hA
  simp only at hA
  generalize (allV s).1 = L at *
  clear h0
  have hcb : (c != 0) = true := by simp [hc]
  go_enter Tryz.func13, Tryz.ntmps13
  go_wp2_with (go_at_call 22; refine hA.mono ?_; rintro e w1 ⟨v, rfl, hR, hb⟩; have hb2 := hb.alloc hb.size (.cells #[.int .i64 x, .int .i64 y, .int .i64 z] 26); have hP := Blk.new w1 #[.int .i64 x, .int .i64 y, .int .i64 z] 26; clear hR)
  generalize hW0 : w1.alloc (.cells #[.int .i64 x, .int .i64 y, .int .i64 z] 26) = W0 at *
  have hz : w1.heap.size < W0.heap.size := hP.lt
  have hz1 := hb.size
  have p0 := hP.cell 0; have p1 := hP.cell 1; have p2 := hP.cell 2
  simp at p0 p1 p2
  have hF := Blk.new W0.drew #[.int .i64 c, .int .i64 x, .int .i64 y, .int .i64 z] 28
  have hb3 := hb2.drew.alloc (by show _ ≤ W0.heap.size; omega) (.cells #[.int .i64 c, .int .i64 x, .int .i64 y, .int .i64 z] 28)
  go_region_with (fail)
  all_goals (try (go_wp2_with fail))
  all_goals (go_ret2; exact ⟨_, rfl, by show _ ≤ W0.heap.size; omega, hF, hb3⟩)
end Go.Proofs.YtdphhmigbbgjmaaGreatDoor
end
section
namespace Go.Proofs.YtdphhmigbbgjmaaGreatDoor
open Go.RowKit Go.Lib Go.Shelf
open PScan
open Go.Proofs.YtdphhmigbbgjmaaGreatDoorW.PrintWords
set_option linter.unusedVariables false
attribute [local go_sem] Oper.semAt_some
set_option maxRecDepth 100000 in
set_option maxHeartbeats 4000000 in
theorem notes_Of_no (s : ByteArray) (hs : s.size ≤ 67108864) (c x y z : Int) (hc : c ≠ 0) (h0 : (allV s).2 = (c, x, y, z)) (w : World) (hT : Clas w) :
    Calls Tryz.prog 6 #[.string s] w fun e w' => ∃ b, e = .returned (.tuple #[.slice none 0 0, .iface 55 (.pointer (some ⟨b, 0, none⟩))]) ∧ w.heap.size ≤ b ∧ Blk w' b #[.int .i64 c, .int .i64 x, .int .i64 y, .int .i64 z] 28 ∧ Below w.heap.size w w' := by
  have hA := notes_all_no s hs c x y z hc h0 w hT
  refine (callsIn_wide (n := 3)).1 ?_
  refine callsIn_of_wp_marks Tryz.func6 rfl trivial ?_ rfl
  simp only [Tryz.ntmps6, List.size_toArray, List.length_cons, List.length_nil, Nat.reduceAdd, Nat.reduceSub, Array.replicate_succ, Array.replicate_zero, List.push_toArray, List.append_toArray, List.nil_append, List.cons_append]
  gi_wp2_with (refine ⟨trivial, ?_⟩; gi_at_call 13; refine (callsIn_wide.2 hA).mono ?_; rintro e w1 ⟨b, rfl, hb, hF, hbb⟩)
  refine ⟨.tuple #[.slice none 0 0, .iface 55 (.pointer (some ⟨b, 0, none⟩))], ?_, b, rfl, hb, hF.alloc _, hbb.alloc hbb.size _⟩
  simp [results, Tryz.results6, go_sem]
def tkOf (x : S48) : Tk := ⟨x.f0, x.f1, x.f2.f0, x.f2.f1, x.f2.f2, x.f3⟩
def behT (t0 t : Tk) : Bool := (t.f == 0) && !(t.a == t0.a && (t.l == t0.l && t.c == t0.c))
/-- The comments among tokens: how many others stand ahead of each, its text, whether behind another. -/
def rmkGo (t0 : Tk) : Nat → List Tk → List (Nat × ByteArray × Bool)
  | _, [] => []
  | n, t :: r => if t.note then (n, t.s, behT t0 t) :: rmkGo t0 n r else rmkGo t0 (n + 1) r
theorem rmk_snoc (t0 t : Tk) : ∀ (n : Nat) (xs : List Tk), rmkGo t0 n (xs ++ [t]) = rmkGo t0 n xs ++ if t.note then [(n + plainN xs, t.s, behT t0 t)] else []
  | n, [] => by simp [rmkGo, plainN]
  | n, x :: r => by
    have h1 := rmk_snoc t0 t n r
    have h2 := rmk_snoc t0 t (n + 1) r
    rw [List.cons_append, rmkGo, rmkGo]
    cases hx : x.note with
    | true =>
      simp only [if_true, h1, List.cons_append]
      have : plainN (x :: r) = plainN r := by unfold plainN; simp [hx]
      rw [this]
    | false =>
      simp only [Bool.false_eq_true, if_false, h2]
      have : plainN (x :: r) = plainN r + 1 := by unfold plainN; simp [hx]
      rw [this, show n + 1 + plainN r = n + (plainN r + 1) by omega]
def rmkC (l : List (Nat × ByteArray × Bool)) : List Value := l.flatMap fun r => [.int .i64 r.1, .string r.2.1, .bool r.2.2]
theorem rmkC_app (a b : List (Nat × ByteArray × Bool)) : rmkC (a ++ b) = rmkC a ++ rmkC b := by simp [rmkC]
theorem own_sm {H B : Nat} {W W' : World} {e : TypeId} {sz : Nat} {v : Value} {n : Nat} {xs : List Value} (h : W.ownsRow B e sz v n xs) (k : Sm H W W') (hB : H + 2 ≤ B) : W'.ownsRow B e sz v n xs := by
  refine ⟨h.1, ?_⟩
  rcases h.2 with hn | ⟨g, cap, cur, hv, hbg, hg, rest⟩
  · exact .inl hn
  · exact .inr ⟨g, cap, cur, hv, hbg, (k.same g (Array.getElem?_eq_some_iff.1 hg).1 (by omega) (by omega)).trans hg, rest⟩
theorem Blk.sm {H q : Nat} {W W' : World} {cs : Array Value} {t : TypeId} (h : Blk W q cs t) (k : Sm H W W') (hq : q < H) : Blk W' q cs t := by unfold Blk; rw [k.same q h.lt (by omega) (by omega)]; exact h
theorem below_sm {H b : Nat} {w W W' : World} (h : Below b w W) (k : Sm H W W') (hb : b ≤ H) (hw : b ≤ w.heap.size) : Below b w W' :=
  h.trans ⟨k.os, k.tape, k.output, k.size, fun i hi => by
    have := h.size
    exact k.same i (by omega) (by omega) (by omega)⟩
end Go.Proofs.YtdphhmigbbgjmaaGreatDoor
end
