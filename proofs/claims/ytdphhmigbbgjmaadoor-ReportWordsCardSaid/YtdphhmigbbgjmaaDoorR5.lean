/- strings.Cut at a separator of one byte. Condition: shorter than 2^62 bytes. The iterator of package place that tells a text's lines, for every loop body. Condition: shorter than 2^62 bytes. A range over the lines of a text, for every loop body that keeps the iterator's own memory. Condition: shorter than 2^62 bytes. place.Line tells a line of a text. Conditions: shorter than 2^62 - 4 bytes; the number is one of 64 bits. -/
import Derived.Test.YtdphhmigbbgjmaaDoorM1
import Derived.Test.YtdphhmigbbgjmaaDoorShelf
import Derived.Deep.QuietTactic
import Derived.BigQuiet
import Derived.RangeFuncCalls
import Derived.RangeFuncLeaves
import Derived.RangeFuncRecord
import Derived.RangeFuncSeq
import Derived.Shelf.Abstract
import Derived.OwnWalkIn
import Derived.TacticsInMore
import Derived.LoopNIn
import Derived.LoopIn
import Derived.RangeFuncOwn
section
namespace Go.Proofs.YtdphhmigbbgjmaaDoor
open Go.RowKit Go.Lib
attribute [local go_sem] byteAt_get wrap64_byteAt
theorem indexByte_lt (l : List UInt8) (c : UInt8) : Lib.indexByte l c < l.length := by
  have h := indexByte_ge l c
  by_cases e : Lib.indexByte l c = -1
  · rw [e]; omega
  · obtain ⟨o, ho⟩ := Int.eq_ofNat_of_zero_le (show 0 ≤ Lib.indexByte l c by omega)
    have := (indexByte_some ho).1
    rw [ho]
    have := (List.getElem?_eq_some_iff.1 this).1
    omega
/-- What strings.Cut tells at a separator of one byte. -/
def cut1V (s : ByteArray) (c : UInt8) : Value :=
  if 0 ≤ Lib.indexByte s.data.toList c then .tuple #[.string (s.extract 0 (Lib.indexByte s.data.toList c).toNat), .string (s.extract ((Lib.indexByte s.data.toList c).toNat + 1) s.size), .bool true]
  else .tuple #[.string s, .string ⟨#[]⟩, .bool false]
theorem sl_Cut1 (s : ByteArray) (c : UInt8) (w : World) (hs : s.size < 4611686018427387904) :
    Calls Tryd.prog 171 #[.string s, .string ⟨#[c]⟩] w fun e w' => e = .returned (cut1V s c) ∧ ∃ n, w' = w.drewN n := by
  obtain ⟨z, hz⟩ : ∃ z, z = Lib.indexByte s.data.toList c := ⟨_, rfl⟩
  have hI : ∀ W, Calls Tryd.prog 122 #[.string s, .string ⟨#[c]⟩] W fun e w' => e = .returned (.int .i64 z) ∧ W = w' := fun W => by
    rw [hz]; exact (Tryd.stringslite_Index_one s c W).mono fun e w' ⟨h1, h2⟩ => ⟨h1, h2.symm⟩
  have hI := Lib.hid hI
  have hlt : z < s.size := by rw [hz, ← size_len]; exact indexByte_lt _ _
  have fin : Hid (cut1V s c = if 0 ≤ z then .tuple #[.string (s.extract 0 z.toNat), .string (s.extract (z.toNat + 1) s.size), .bool true] else .tuple #[.string s, .string ⟨#[]⟩, .bool false]) := by rw [hz]; exact Lib.hid rfl
  clear hz
  by_cases h0 : 0 ≤ z
  · obtain ⟨i, rfl⟩ := Int.eq_ofNat_of_zero_le h0
    have fin2 : Hid (cut1V s c = .tuple #[.string (s.extract 0 i), .string (s.extract (i + 1) s.size), .bool true]) := by rw [fin.out, if_pos h0]; exact Lib.hid rfl
    clear fin
    have e1 : IntKind.i64.wrap ((i : Int) + 1) = i + 1 := IntWalk.i64_in _ (by omega)
    have b1 : (0 : Int) ≤ (i : Int) + 1 := by omega
    have b2 : ((i : Int) + 1) ≤ s.size := by omega
    have b3 : (i : Int) ≤ s.size := by omega
    have b4 : ((i : Int) + 1).toNat = i + 1 := by omega
    go_enter Tryd.func171, Tryd.ntmps171
    go_wp2_with (go_at_call 122; refine (hI.out _).mono ?_; rintro e w' ⟨rfl, rfl⟩)
    go_quiet (fail)
    go_wp2
    go_ret3
    exact ⟨by rw [fin2.out]; rfl, _, rfl⟩
  · have fin2 : Hid (cut1V s c = .tuple #[.string s, .string ⟨#[]⟩, .bool false]) := by rw [fin.out, if_neg h0]; exact Lib.hid rfl
    clear fin
    go_enter Tryd.func171, Tryd.ntmps171
    go_wp2_with (go_at_call 122; refine (hI.out _).mono ?_; rintro e w' ⟨rfl, rfl⟩)
    go_ret3
    exact ⟨by rw [fin2.out]; rfl, 0, rfl⟩
theorem strings_Cut1 (s : ByteArray) (c : UInt8) (w : World) (hs : s.size < 4611686018427387904) :
    Calls Tryd.prog 145 #[.string s, .string ⟨#[c]⟩] w fun e w' => e = .returned (cut1V s c) ∧ ∃ n, w' = w.drewN n := by
  obtain ⟨a, b, d, hv⟩ : ∃ a b d, cut1V s c = .tuple #[a, b, d] := by unfold cut1V; split <;> exact ⟨_, _, _, rfl⟩
  have H := sl_Cut1 s c w hs
  rw [hv] at H ⊢
  have H := Lib.hid H
  clear hv
  go_enter Tryd.func145, Tryd.ntmps145
  go_wp2_with (go_at_call 171; refine H.out.mono ?_; rintro e w' ⟨rfl, m, rfl⟩)
  go_ret3
  exact ⟨rfl, _, rfl⟩

end Go.Proofs.YtdphhmigbbgjmaaDoor
end
section
namespace Go.Proofs.YtdphhmigbbgjmaaDoor
open Go.RowKit Go.Lib Go.Shelf
attribute [local go_sem] Oper.semAt_some

theorem linesOf_cut (s : ByteArray) : (∃ i : Nat, Lib.indexByte s.data.toList 10 = i ∧ i < s.size ∧ linesOf s.data.toList = (s.data.toList.take i) :: linesOf (s.data.toList.drop (i + 1))) ∨ (Lib.indexByte s.data.toList 10 = -1 ∧ linesOf s.data.toList = [s.data.toList]) := by
  by_cases e : Lib.indexByte s.data.toList 10 = -1
  · right
    refine ⟨e, linesOf_end _ fun b hb h => ?_⟩
    obtain ⟨k, hk, hkb⟩ := List.mem_iff_getElem.1 hb
    exact indexByte_none e k (by rw [List.getElem?_eq_getElem hk, hkb, h])
  · left
    have h := indexByte_ge s.data.toList 10
    obtain ⟨i, hi⟩ := Int.eq_ofNat_of_zero_le (show 0 ≤ Lib.indexByte s.data.toList 10 by omega)
    obtain ⟨h1, h2⟩ := indexByte_some hi
    have hl := (List.getElem?_eq_some_iff.1 h1).1
    refine ⟨i, hi, by rw [size_len] at hl; exact hl, ?_⟩
    have e2 : s.data.toList = s.data.toList.take i ++ 10 :: s.data.toList.drop (i + 1) := by
      conv => lhs; rw [← List.take_append_drop i s.data.toList]
      congr 1
      rw [List.drop_eq_getElem_cons hl, (List.getElem?_eq_some_iff.1 h1).2]
    conv => lhs; rw [e2]
    refine linesOf_run _ _ fun b hb h => ?_
    obtain ⟨k, hk, hkb⟩ := List.mem_iff_getElem.1 hb
    rw [List.length_take] at hk
    rw [List.getElem_take] at hkb
    exact h2 k (by omega) (by rw [List.getElem?_eq_getElem (by omega), hkb, h])
theorem linesOf_len : ∀ l : Bs, (linesOf l).length ≤ l.length + 1
  | [] => by simp [linesOf]
  | b :: t => by
    have ih := linesOf_len t
    unfold linesOf
    split
    · simp; omega
    · split
      · simp
      · rename_i x r h; rw [h] at ih; simp at ih ⊢; omega
/-- How long the text in a cell is. -/
def strLen (W : World) (B : Nat) : Nat := match W.cell? ⟨B, 0, none⟩ with | some (.string s) => s.size | _ => 0
theorem strLen_eq {W : World} {B : Nat} {s : ByteArray} (h : W.cell? ⟨B, 0, none⟩ = some (.string s)) : strLen W B = s.size := by unfold strLen; rw [h]

set_option maxRecDepth 100000 in
set_option maxHeartbeats 1000000 in
theorem lines_iter (n : Nat) (hn : 1 ≤ n) (l B : Nat) (s : ByteArray) (hs : s.size < 4611686018427387904)
    (J : List Bs → ByteArray → World → Prop) (Jx : List Bs → World → Prop)
    (hcell : ∀ pre cur W, J pre cur W → W.cell? ⟨B, 0, none⟩ = some (.string cur) ∧ W.frozen? ⟨B, 0, none⟩ = false)
    (hset : ∀ pre cur cur' W, J pre cur W → J pre cur' (W.setCell ⟨B, 0, none⟩ (.string cur')))
    (hdrew : ∀ pre cur W m, J pre cur W → J pre cur (W.drewN m))
    (hY : ∀ pre cur (x : ByteArray) W, J pre cur W → (pre ++ [x.data.toList]) <+: linesOf s.data.toList → YieldAt Fence.wide (n - 1) Tryd.prog l #[.string x] W fun e W' =>
      (e = .returned (.bool true) ∧ J (pre ++ [x.data.toList]) cur W') ∨ (e = .returned (.bool false) ∧ Jx (pre ++ [x.data.toList]) W'))
    (W : World) (h0 : J [] s W) :
    CallsIn Fence.wide n Tryd.prog 144 #[.func (.yield l) #[] #[], .pointer (some ⟨B, 0, none⟩)] W fun e W' => (∃ v, e = .returned v) ∧
      ((∃ cur, J (linesOf s.data.toList) cur W') ∨ (∃ pre, pre <+: linesOf s.data.toList ∧ Jx pre W')) := by
  refine callsIn_of_wp Tryd.func144 rfl trivial ?_ rfl
  simp only [Tryd.ntmps144, List.size_toArray, List.length_cons, List.length_nil, Nat.reduceAdd, Nat.reduceSub, Array.replicate_succ, Array.replicate_zero, List.push_toArray, List.append_toArray, List.nil_append, List.cons_append]
  gi_wp2
  gi_loopw [3] (fun _ wr => ∃ (pre : List Bs) (cur : ByteArray), J pre cur wr ∧ Hid (linesOf s.data.toList = pre ++ linesOf cur.data.toList) ∧ cur.size ≤ s.size) (fun _ wr => strLen wr B)
  case atStart => exact ⟨[], s, h0, Lib.hid rfl, Nat.le_refl _⟩
  case round =>
    obtain ⟨pre, cur, hJ, hl, hcs⟩ := hrel
    have hc := hcell _ _ _ hJ
    obtain ⟨hc1, hc2⟩ := hc
    have hcut' : CallsIn Fence.wide (n - 1) Tryd.prog 145 #[.string cur, .string ⟨#[10]⟩] wr fun e w' => e = .returned (cut1V cur 10) ∧ ∃ m, w' = wr.drewN m := callsIn_wide.2 (strings_Cut1 cur 10 wr (by omega))
    rcases linesOf_cut cur with ⟨i, hi, his, hls⟩ | ⟨hi, hls⟩
    · have hv : cut1V cur 10 = .tuple #[.string (cur.extract 0 i), .string (cur.extract (i + 1) cur.size), .bool true] := by
        unfold cut1V; rw [hi, if_pos (by omega)]; rfl
      rw [hv] at hcut'
      have hcut' := Lib.hid hcut'
      clear hv
      have hJd := fun m => hdrew _ _ _ m hJ
      have hx : (cur.extract 0 i).data.toList = cur.data.toList.take i := by rw [extract_list]; simp
      have hall : Hid (linesOf s.data.toList = (pre ++ [(cur.extract 0 i).data.toList]) ++ linesOf (cur.extract (i + 1) cur.size).data.toList) := by
        rw [hl.out, hls, hx, extract_list]
        simp only [List.append_assoc, List.cons_append, List.nil_append]
        have : (cur.data.toList.drop (i + 1)).take (cur.size - (i + 1)) = cur.data.toList.drop (i + 1) := List.take_of_length_le (by rw [List.length_drop, size_len]; exact Nat.le_refl _)
        rw [this]; exact Lib.hid rfl
      have hyy := fun m => hY pre cur (cur.extract 0 i) (wr.drewN m) (hJd m) ⟨_, hall.out.symm⟩
      clear hls hi hx
      have hall := Lib.hid hall
      gi_wp2_with (refine ⟨trivial, ?_⟩; gi_at_call 145; refine hcut'.out.mono ?_; rintro e w' ⟨rfl, m, rfl⟩; obtain ⟨fn, tmps, assign, body, hy, hR⟩ := hyy m)
      refine hR.mono ?_
      rintro e W3 (⟨rfl, hJ3⟩ | ⟨rfl, hJx3⟩)
      · obtain ⟨d1, d2⟩ := hcell _ _ _ hJ3
        have hJ4 := hset _ _ (cur.extract (i + 1) cur.size) _ hJ3
        have d4 := strLen_eq (hcell _ _ _ hJ4).1
        have d5 := strLen_eq hc1
        have d4 := Lib.hid d4
        have d5 := Lib.hid d5
        have hsz : (cur.extract (i + 1) cur.size).size < cur.size := by simp; omega
        gi_wp2
        go_roundw
        case rel => exact ⟨pre ++ [(cur.extract 0 i).data.toList], cur.extract (i + 1) cur.size, hJ4, hall.out, by omega⟩
        case measure => rw [d4.out, d5.out]; exact hsz
      · gi_wp2
        refine bodyPost_ret (results_none rfl _ _ _) rfl ?_
        exact ⟨⟨_, rfl⟩, .inr ⟨pre ++ [(cur.extract 0 i).data.toList], ⟨_, hall.out.out.symm⟩, hJx3⟩⟩
    · have hv : cut1V cur 10 = .tuple #[.string cur, .string ⟨#[]⟩, .bool false] := by
        unfold cut1V; rw [hi, if_neg (by omega)]
      rw [hv] at hcut'
      have hcut' := Lib.hid hcut'
      clear hv
      have hJd := fun m => hdrew _ _ _ m hJ
      have hall : Hid (linesOf s.data.toList = pre ++ [cur.data.toList]) := by rw [hl.out, hls]; exact Lib.hid rfl
      have hyy := fun m => hY pre cur cur (wr.drewN m) (hJd m) ⟨[], by rw [hall.out]; simp⟩
      clear hls hi
      gi_wp2_with (refine ⟨trivial, ?_⟩; gi_at_call 145; refine hcut'.out.mono ?_; rintro e w' ⟨rfl, m, rfl⟩; obtain ⟨fn, tmps, assign, body, hy, hR⟩ := hyy m)
      refine hR.mono ?_
      rintro e W3 (⟨rfl, hJ3⟩ | ⟨rfl, hJx3⟩)
      · gi_wp2
        refine bodyPost_ret (results_none rfl _ _ _) rfl ?_
        exact ⟨⟨_, rfl⟩, .inl ⟨cur, by rw [hall.out]; exact hJ3⟩⟩
      · gi_wp2
        refine bodyPost_ret (results_none rfl _ _ _) rfl ?_
        exact ⟨⟨_, rfl⟩, .inr ⟨pre ++ [cur.data.toList], ⟨[], by rw [hall.out]; simp⟩, hJx3⟩⟩

end Go.Proofs.YtdphhmigbbgjmaaDoor
end
section
namespace Go.Proofs.YtdphhmigbbgjmaaDoor
open Go.RowKit Go.Lib Go.Shelf
attribute [local go_sem] byteAt_get wrap64_byteAt
attribute [local go_sem] Oper.semAt_some
theorem place_lines (s : ByteArray) (w : World) :
    Calls Tryd.prog 104 #[.string s] w fun e w' => e = .returned (.func (.func 144) #[] #[.pointer (some ⟨w.heap.size, 0, none⟩)]) ∧ w' = w.alloc (.cells #[.string s] 9) := by
  have hmf : ∀ (fn : Fn) (first cap : Array Value) (w : World), (Instr.makeFunc fn first cap).run Tryd.prog w = .ok (.func fn first cap) w := fun _ _ _ _ => rfl
  go_enter Tryd.func104, Tryd.ntmps104
  go_wp2
  go_ret
  exact ⟨rfl, rfl⟩
/-- What a caller's word abides: turns of block B, and of blocks from H on. -/
structure Sim (B H : Nat) (W W' : World) : Prop where
  os : W'.os = W.os
  tape : W'.tape = W.tape
  output : W'.output = W.output
  size : W.heap.size ≤ W'.heap.size
  same : ∀ k, k < H → k ≠ B → W'.heap[k]? = W.heap[k]?
theorem Sim.putObj (B H : Nat) (W : World) (l : Nat) (o : Obj) (h : H ≤ l) : Sim B H W (W.putObj l o) := ⟨rfl, rfl, rfl, by simp [World.putObj], fun k hk _ => World.putObj_heap_other (by omega)⟩
theorem Sim.alloc (B H : Nat) (W : World) (o : Obj) (h : H ≤ W.heap.size) : Sim B H W (W.alloc o) := ⟨rfl, rfl, rfl, by simp, fun k hk _ => Below.heap_alloc _ _ _ (by omega)⟩
theorem Sim.setCell (B H : Nat) (W : World) (o : Nat) (v : Value) : Sim B H W (W.setCell ⟨B, o, none⟩ v) := ⟨rfl, rfl, rfl, by simp [World.setCell], fun k _ hk => Below.heap_setCell _ _ _ _ hk⟩
theorem Sim.drewN (B H : Nat) (W : World) (m : Nat) : Sim B H W (W.drewN m) := ⟨rfl, rfl, rfl, Nat.le_refl _, fun _ _ _ => rfl⟩
theorem Sim.trans {B H : Nat} {X Y Z : World} (h : Sim B H X Y) (k : Sim B H Y Z) : Sim B H X Z := ⟨k.os.trans h.os, k.tape.trans h.tape, k.output.trans h.output, Nat.le_trans h.size k.size, fun i h1 h2 => (k.same i h1 h2).trans (h.same i h1 h2)⟩
theorem Blk.sim {W W' : World} {B H b : Nat} {cs : Array Value} {t : TypeId} (h : Blk W b cs t) (k : Sim B H W W') (h1 : b < H) (h2 : b ≠ B) : Blk W' b cs t := by unfold Blk; rw [k.same b h1 h2]; exact h
/-- What a round keeps: block B, and what lies from H on. -/
def Keep (B H : Nat) (W W' : World) : Prop := ∀ k, (k = B ∨ H ≤ k) → k < W.heap.size → W'.heap[k]? = W.heap[k]?
def rPost (B H : Nat) (I Ix : List Bs → World → Prop) (xs : List Bs) (W : World) : Exit → Act → World → Prop
  | .normal, _, W' => Keep B H W W' ∧ I xs W'
  | .ret, _, W' => Keep B H W W' ∧ Ix xs W'
  | _, _, _ => False
set_option maxHeartbeats 1000000 in
theorem range_lines {g : Operand} {ps : Array Tmp} {assign body : Code} {Q : Exit → Act → World → Prop} {a : Act} {W0 : World} (B : Nat) (s : ByteArray) (hs : s.size < 4611686018427387904)
    (hg : a.eval g = .func (.func 144) #[] #[.pointer (some ⟨B, 0, none⟩)]) (hB : Blk W0 B #[.string s] 9) (hps : ps.size = 1)
    (I Ix : List Bs → World → Prop) (hI : ∀ xs W W', I xs W → Sim B W0.heap.size W W' → I xs W') (hIx : ∀ xs W W', Ix xs W → Sim B W0.heap.size W W' → Ix xs W') (h0 : I [] W0) (a₁ : ByteArray → Act)
    (hassign : ∀ (l : Nat) (x : ByteArray) (W : World) (K : Act → World → Prop), K (a₁ x) W →
      assign.wpIn (Fence.wide.inRound l) 1 Tryd.prog (Exit.then K (fun _ _ _ => False)) { tmps := (ps.zip #[.string x]).foldl (fun t (p, v) => t.setIfInBounds p v) a.tmps, defers := [] } W)
    (hbody : ∀ (l : Nat) (pre : List Bs) (x : ByteArray) (W : World), I pre W → (pre ++ [x.data.toList]) <+: linesOf s.data.toList → W0.heap.size ≤ W.heap.size → body.wpIn (Fence.wide.inRound l) 1 Tryd.prog (rPost B W0.heap.size I Ix (pre ++ [x.data.toList]) W) (a₁ x) W)
    (hdone : ∀ W, I (linesOf s.data.toList) W → W.heap[W0.heap.size]? = some (.deferred (some [])) → Q .normal { a with defers := { target := .collected W0.heap.size, args := #[] } :: a.defers } W)
    (hstop : ∀ pre W, pre <+: linesOf s.data.toList → Ix pre W → W.heap[W0.heap.size]? = some (.deferred (some [])) → Code.ret.wpIn Fence.wide 3 Tryd.prog Q { a with defers := { target := .collected W0.heap.size, args := #[] } :: a.defers } W) :
    (Code.rangeFunc g ps assign body).wpIn Fence.wide 3 Tryd.prog Q a W0 := by
  refine wpIn_rangeFunc ?_
  intro fn hfn
  obtain ⟨rec, hrec⟩ : ∃ rec : LoopState → Option Code → Loop, rec = fun st pe => { state := st, pending := pe, fn, tmps := a.tmps, params := ps, assign, body, defers := W0.heap.size } := ⟨_, rfl⟩
  obtain ⟨W1, hW1⟩ : ∃ W1, (W0.alloc (.deferred (some []))).alloc (.loop (rec .ready none)) = W1 := ⟨_, rfl⟩
  have hL1 : W1.heap[W0.heap.size + 1]? = some (.loop (rec .ready none)) := by
    rw [← hW1]; have := World.alloc_heap_new (W0.alloc (.deferred (some []))) (.loop (rec .ready none)); rwa [World.size_alloc] at this
  have hK1 : W1.heap[W0.heap.size]? = some (.deferred (some [])) := by
    rw [← hW1]; exact (Below.heap_alloc _ _ _ (by simp)).trans (World.alloc_heap_new W0 _)
  have hS1 : Sim B W0.heap.size W0 W1 := by rw [← hW1]; exact (Sim.alloc _ _ _ _ (Nat.le_refl _)).trans (Sim.alloc _ _ _ _ (by simp))
  have hB1 : Blk W1 B #[.string s] 9 := by rw [← hW1]; exact (hB.alloc _).alloc _
  have hBl := hB.lt
  refine ⟨W0.heap.size + 1, [{ target := .collected W0.heap.size, args := #[] }], W1, { target := .fn (.func 144) #[.pointer (some ⟨B, 0, none⟩)], args := #[.func (.yield (W0.heap.size + 1)) #[] #[]] }, W1, 144, #[.func (.yield (W0.heap.size + 1)) #[] #[], .pointer (some ⟨B, 0, none⟩)], W1, ?_, ?_, ?_, ?_, fun _ => by omega, ?_⟩
  · rw [← hW1, hrec]; exact run_enterLoop_outer _ _ _ _ _
  · simp only [resolve, hg]
    simp [go_sem]
  · intro f' _; trivial
  · simp [invoke, go_sem]
  · refine (lines_iter (3 - 1) (by omega) (W0.heap.size + 1) B s hs
      (fun pre cur W => I pre W ∧ Blk W B #[.string cur] 9 ∧ W.heap[W0.heap.size + 1]? = some (.loop (rec .ready none)) ∧ W.heap[W0.heap.size]? = some (.deferred (some [])))
      (fun pre W => Ix pre W ∧ W.heap[W0.heap.size + 1]? = some (.loop (rec .done (some .ret))) ∧ W.heap[W0.heap.size]? = some (.deferred (some [])))
      (fun pre cur W h => ⟨by rw [h.2.1.cell 0]; rfl, h.2.1.frozen 0⟩)
      (fun pre cur cur' W h => ⟨hI _ _ _ h.1 (Sim.setCell _ _ _ _ _), by have := h.2.1.set 0 (.string cur'); simpa using this, (Below.heap_setCell _ _ _ _ (by simp; omega)).trans h.2.2.1, (Below.heap_setCell _ _ _ _ (by simp; omega)).trans h.2.2.2⟩)
      (fun pre cur W m h => ⟨hI _ _ _ h.1 (Sim.drewN _ _ _ _), h.2.1, h.2.2.1, h.2.2.2⟩) ?_ W1 ⟨hI _ _ _ h0 hS1, hB1, hL1, hK1⟩).mono ?_
    · rintro pre cur x W ⟨hi, hb, hl, hk⟩ hpre
      have hlt : W0.heap.size + 1 < W.heap.size := (Array.getElem?_eq_some_iff.1 hl).1
      have hy := run_yield (P := Tryd.prog) (args := #[.string x]) hl (by rw [hrec]; exact hps.symm)
      rw [hrec] at hy
      obtain ⟨W2, hW2⟩ : ∃ W2, W.putObj (W0.heap.size + 1) (.loop { rec .ready none with state := .busy }) = W2 := ⟨_, rfl⟩
      have hl2 : W2.heap[W0.heap.size + 1]? = some (.loop { rec .ready none with state := .busy }) := by rw [← hW2]; exact World.putObj_heap_same hlt
      have hk2 : W2.heap[W0.heap.size]? = some (.deferred (some [])) := by rw [← hW2]; exact (World.putObj_heap_other (by omega)).trans hk
      have hb2 : Blk W2 B #[.string cur] 9 := by unfold Blk; rw [← hW2]; exact (World.putObj_heap_other (by omega)).trans hb
      have hz2 : W2.heap.size = W.heap.size := by rw [← hW2]; simp [World.putObj]
      refine ⟨fn, _, assign, body, hy, roundIn_of_wpIn hfn (hassign _ x W _ ⟨W2, by rw [← hW2]; exact run_beginRound hl (by rw [hrec]), ?_⟩)⟩
      refine wpIn_mono (hbody _ pre x W2 (hI _ _ _ hi (by rw [← hW2]; exact Sim.putObj _ _ _ _ _ (by omega))) hpre (by omega)) ?_
      have fin : ∀ (jump : Option Code) (W3 : World), Keep B W0.heap.size W2 W3 →
          (Instr.endRound (W0.heap.size + 1) jump).run Tryd.prog W3 = .ok (.bool jump.isNone) (W3.putObj (W0.heap.size + 1) (.loop (rec (if jump.isNone then .ready else .done) jump))) ∧
          (W3.putObj (W0.heap.size + 1) (.loop (rec (if jump.isNone then .ready else .done) jump))).heap[W0.heap.size + 1]? = some (.loop (rec (if jump.isNone then .ready else .done) jump)) ∧
          (W3.putObj (W0.heap.size + 1) (.loop (rec (if jump.isNone then .ready else .done) jump))).heap[W0.heap.size]? = some (.deferred (some [])) ∧
          Blk (W3.putObj (W0.heap.size + 1) (.loop (rec (if jump.isNone then .ready else .done) jump))) B #[.string cur] 9 := fun jump W3 hk3 => by
        have hl3 := (hk3 (W0.heap.size + 1) (.inr (by omega)) (by omega)).trans hl2
        have := run_endRound (P := Tryd.prog) jump hl3
        rw [hrec] at this ⊢
        refine ⟨this, World.putObj_heap_same (Array.getElem?_eq_some_iff.1 hl3).1, (World.putObj_heap_other (by omega)).trans ((hk3 _ (.inr (by omega)) (by omega)).trans hk2), ?_⟩
        exact (World.putObj_heap_other (by omega)).trans ((hk3 _ (.inl rfl) (by omega)).trans hb2)
      rintro e a3 W3 hp
      cases e with
      | normal =>
        obtain ⟨hkp, hi3⟩ := hp
        obtain ⟨hr, q1, q2, q3⟩ := fin none W3 hkp
        exact ⟨_, _, hr, .inl ⟨rfl, hI _ _ _ hi3 (Sim.putObj _ _ _ _ _ (by omega)), q3, q1, q2⟩⟩
      | ret =>
        obtain ⟨hkp, hi3⟩ := hp
        obtain ⟨hr, q1, q2, q3⟩ := fin (some .ret) W3 hkp
        exact ⟨_, _, hr, .inr ⟨rfl, hIx _ _ _ hi3 (Sim.putObj _ _ _ _ _ (by omega)), q1, q2⟩⟩
      | exit id => exact hp.elim
      | goto t => exact hp.elim
      | panic ch => exact hp.elim
      | outgrown => exact hp.elim
    · rintro e W2 ⟨⟨v, rfl⟩, (⟨cur, hi, hb, hl, hk⟩ | ⟨pre, hpre, hi, hl, hk⟩)⟩
      · exact ⟨none, _, by have := run_endLoop (P := Tryd.prog) hl (by rw [hrec]; simp); rw [hrec] at this; exact this, hdone _ (hI _ _ _ hi (Sim.putObj _ _ _ _ _ (by omega))) ((World.putObj_heap_other (by omega)).trans hk)⟩
      · exact ⟨some .ret, _, by have := run_endLoop (P := Tryd.prog) hl (by rw [hrec]; simp); rw [hrec] at this; exact this, hstop pre _ hpre (hIx _ _ _ hi (Sim.putObj _ _ _ _ _ (by omega))) ((World.putObj_heap_other (by omega)).trans hk)⟩

end Go.Proofs.YtdphhmigbbgjmaaDoor
end
section
namespace Go.Proofs.YtdphhmigbbgjmaaDoor
open Go.RowKit Go.Lib Go.Shelf
attribute [local go_sem] Oper.semAt_some
def LI (w : World) (n : Int) (pre : List Bs) (W : World) : Prop :=
  Blk W w.heap.size #[.int .i64 (wrap64 (n - pre.length))] 3 ∧ Blk W (w.heap.size + 1) #[.string ⟨#[]⟩] 9 ∧ Blk W (w.heap.size + 2) #[.bool false] 4 ∧ Below w.heap.size w W ∧ (n < 1 ∨ (pre.length : Int) < n)
def LIx (w : World) (n : Int) (pre : List Bs) (W : World) : Prop :=
  ∃ q x, pre = q ++ [x] ∧ n = q.length + 1 ∧ Blk W (w.heap.size + 1) #[.string ⟨x.toArray⟩] 9 ∧ Blk W (w.heap.size + 2) #[.bool true] 4 ∧ Below w.heap.size w W
theorem below_sim {H B : Nat} {w W W' : World} {b : Nat} (h : Below b w W) (k : Sim B H W W') (h1 : b ≤ H) (h2 : b ≤ B) : Below b w W' :=
  h.trans ⟨k.os, k.tape, k.output, k.size, fun i hi => k.same i (by omega) (by omega)⟩
theorem toArray_data (x : ByteArray) : (⟨x.data.toList.toArray⟩ : ByteArray) = x := by simp
set_option maxRecDepth 100000 in
set_option maxHeartbeats 1000000 in
theorem place_Line (s : ByteArray) (n : Int) (w : World) (hs : s.size < 4611686018427387900) (hn : wrap64 n = n) :
    Calls Tryd.prog 56 #[.string s, .int .i64 n] w fun e w' => e = .returned (lineV s.data.toList n) ∧ Below w.heap.size w w' := by
  refine (callsIn_wide (n := 3)).1 ?_
  refine callsIn_of_wp_marks Tryd.func56 rfl trivial ?_ rfl
  simp only [Tryd.ntmps56, List.size_toArray, List.length_cons, List.length_nil, Nat.reduceAdd, Nat.reduceSub, Array.replicate_succ, Array.replicate_zero, List.push_toArray, List.append_toArray, List.nil_append, List.cons_append]
  have hn := Lib.hid hn
  gi_wp2_with (refine ⟨trivial, ?_⟩; gi_at_call 104; refine (callsIn_wide.2 (place_lines _ _)).mono ?_; rintro e w' ⟨rfl, rfl⟩)
  obtain ⟨W0, hW0⟩ : ∃ W0, (((w.alloc (.cells #[.int .i64 n] 3)).alloc (.cells #[.string ⟨#[]⟩] 9)).alloc (.cells #[.bool false] 4)).alloc (.cells #[.string s] 9) = W0 := ⟨_, rfl⟩
  have hsz : W0.heap.size = w.heap.size + 4 := by rw [← hW0]; simp
  have hB0 : Blk W0 w.heap.size #[.int .i64 n] 3 := by rw [← hW0]; exact (((Blk.new _ _ _).alloc _).alloc _).alloc _
  have hB1 : Blk W0 (w.heap.size + 1) #[.string ⟨#[]⟩] 9 := by
    rw [← hW0]; have := ((Blk.new (w.alloc (.cells #[.int .i64 n] 3)) #[.string ⟨#[]⟩] 9).alloc (.cells #[.bool false] 4)).alloc (.cells #[.string s] 9); rwa [World.size_alloc] at this
  have hB2 : Blk W0 (w.heap.size + 2) #[.bool false] 4 := by
    rw [← hW0]; have := (Blk.new ((w.alloc (.cells #[.int .i64 n] 3)).alloc (.cells #[.string ⟨#[]⟩] 9)) #[.bool false] 4).alloc (.cells #[.string s] 9); rwa [World.size_alloc, World.size_alloc] at this
  have hB3 : Blk W0 (w.heap.size + 3) #[.string s] 9 := by
    rw [← hW0]; have := Blk.new (((w.alloc (.cells #[.int .i64 n] 3)).alloc (.cells #[.string ⟨#[]⟩] 9)).alloc (.cells #[.bool false] 4)) #[.string s] 9; rwa [World.size_alloc, World.size_alloc, World.size_alloc] at this
  have hb0 : Below w.heap.size w W0 := by
    rw [← hW0]; exact ((((Below.refl _ _).alloc (Nat.le_refl _) _).alloc (by simp) _).alloc (by simp; omega) _).alloc (by simp; omega) _
  rw [hW0]
  clear hW0
  have hll := linesOf_len s.data.toList
  rw [size_len] at hll
  have hll := Lib.hid hll
  refine range_lines (w.heap.size + 3) s (by omega) rfl hB3 rfl (LI w n) (LIx w n)
    (fun xs A B h k => ⟨h.1.sim k (by omega) (by omega), h.2.1.sim k (by omega) (by omega), h.2.2.1.sim k (by omega) (by omega), below_sim h.2.2.2.1 k (by omega) (by omega), h.2.2.2.2⟩)
    (fun xs A B h k => by obtain ⟨q, x, h1, h2, h3, h4, h5⟩ := h; exact ⟨q, x, h1, h2, h3.sim k (by omega) (by omega), h4.sim k (by omega) (by omega), below_sim h5 k (by omega) (by omega)⟩)
    ⟨by simp [hn.out]; exact hB0, hB1, hB2, hb0, by simp; omega⟩
    (fun x => { tmps := #[.string s, .int .i64 n, undef, .pointer (some ⟨w.heap.size, 0, none⟩), .pointer (some ⟨w.heap.size + 1, 0, none⟩), .pointer (some ⟨w.heap.size + 1 + 1, 0, none⟩), .string x, .string s, .func (.func 144) #[] #[.pointer (some ⟨w.heap.size + 1 + 1 + 1, 0, none⟩)], .string x, undef, undef, undef, undef, undef], defers := [] }) ?assign ?body ?done ?stop
  case assign =>
    intro l x W K hK
    gi_wp2
    exact hK
  case body =>
    rintro l pre x W ⟨b0, b1, b2, hb, hpn⟩ hpre hWs
    have hpl : Hid (pre.length ≤ s.size) := by have := hpre.length_le; simp at this; have := hll.out; show pre.length ≤ s.size; omega
    obtain ⟨m, hm⟩ : ∃ m, wrap64 (n - pre.length) = m := ⟨_, rfl⟩
    rw [hm] at b0
    have hw : Hid (wrap64 (m - 1) = wrap64 (n - (pre.length + 1))) := by rw [← hm]; show _ = _; unfold wrap64; omega
    clear hm
    have k0 := b0.cell 0; have k1 := b1.cell 0; have k2 := b2.cell 0
    simp at k0 k1 k2
    have f0 := b0.frozen 0; have f1 := b1.frozen 0; have f2 := b2.frozen 0
    have hkeep : ∀ (W' : World), (∀ k, k < w.heap.size + 3 ∨ W'.heap[k]? = W.heap[k]?) → Keep (w.heap.size + 3) W0.heap.size W W' := fun W' h k hk _ => (h k).resolve_left (by omega)
    by_cases he : n = (pre.length : Int) + 1
    · have ht : (wrap64 (m - 1) == 0) = true := by rw [hw.out, he]; simp; unfold wrap64; omega
      have he' := Lib.hid he
      clear he
      gi_wp2
      have q0 := (b0.set 0 (.int .i64 (wrap64 (m - 1))))
      have q1 := ((b1.other ⟨w.heap.size, 0, none⟩ (.int .i64 (wrap64 (m - 1))) (by simp)).set 0 (.string x)).other ⟨w.heap.size + 2, 0, none⟩ (.bool true) (by simp)
      have q2 := ((b2.other ⟨w.heap.size, 0, none⟩ (.int .i64 (wrap64 (m - 1))) (by simp)).other ⟨w.heap.size + 1, 0, none⟩ (.string x) (by simp)).set 0 (.bool true)
      simp at q1 q2
      refine ⟨hkeep _ fun k => ?_, pre, x.data.toList, rfl, he'.out, by rw [toArray_data]; exact q1, q2, ((hb.setCell (p := ⟨w.heap.size, 0, none⟩) (by simp) _).setCell (p := ⟨w.heap.size + 1, 0, none⟩) (by simp) _).setCell (p := ⟨w.heap.size + 2, 0, none⟩) (by simp) _⟩
      by_cases hk : k < w.heap.size + 3
      · exact .inl hk
      · right
        rw [Below.heap_setCell _ _ _ _ (by simp; omega), Below.heap_setCell _ _ _ _ (by simp; omega), Below.heap_setCell _ _ _ _ (by simp; omega)]
    · have ht : (wrap64 (m - 1) == 0) = false := by
        rw [hw.out]; have := hn.out; have := hpl.out; rw [beq_eq_false_iff_ne]; intro h; unfold wrap64 at *; omega
      have he' := Lib.hid he
      clear he
      gi_wp2
      have q0 := (b0.set 0 (.int .i64 (wrap64 (m - 1))))
      simp at q0
      refine ⟨hkeep _ fun k => ?_, (by rw [show (((pre ++ [x.data.toList]).length : Nat) : Int) = pre.length + 1 from (by simp), ← hw.out]; exact q0), b1.other _ _ (by simp), b2.other _ _ (by simp), hb.setCell (p := ⟨w.heap.size, 0, none⟩) (by simp) _, by have := he'.out; simp; omega⟩
      by_cases hk : k < w.heap.size + 3
      · exact .inl hk
      · right
        rw [Below.heap_setCell _ _ _ _ (by simp; omega)]
  case done =>
    rintro W ⟨b0, b1, b2, hb, hpn⟩ hK
    have k1 := b1.cell 0; have k2 := b2.cell 0
    simp at k1 k2
    have f1 := b1.frozen 0; have f2 := b2.frozen 0
    have fin : Hid (lineV s.data.toList n = .tuple #[.string ⟨#[]⟩, .bool false]) := by
      unfold lineV; rw [getLine_none _ _ hpn]; exact Lib.hid rfl
    gi_wp2
    have hK' : ((W.setCell ⟨w.heap.size + 1, 0, none⟩ (.string ⟨#[]⟩)).setCell ⟨w.heap.size + 2, 0, none⟩ (.bool false)).heap[W0.heap.size]? = some (.deferred (some [])) := by
      rw [Below.heap_setCell _ _ _ _ (by simp; omega), Below.heap_setCell _ _ _ _ (by simp; omega)]; exact hK
    refine ⟨by simp, .inl ⟨_, _, rfl, run_takeDeferred hK', ?_⟩⟩
    have q1 := ((b1.set 0 (.string ⟨#[]⟩)).other ⟨w.heap.size + 2, 0, none⟩ (.bool false) (by simp)).sim (Sim.putObj (w.heap.size + 3) W0.heap.size _ W0.heap.size (.deferred none) (Nat.le_refl _)) (by omega) (by omega)
    have q2 := ((b2.other ⟨w.heap.size + 1, 0, none⟩ (.string ⟨#[]⟩) (by simp)).set 0 (.bool false)).sim (Sim.putObj (w.heap.size + 3) W0.heap.size _ W0.heap.size (.deferred none) (Nat.le_refl _)) (by omega) (by omega)
    have q1 := q1.cell 0; have q2 := q2.cell 0
    simp at q1 q2
    refine ⟨.tuple #[.string ⟨#[]⟩, .bool false], ?_, by rw [fin.out], ?_⟩
    · simp [results, Tryd.results56, go_sem, q1, q2]
    · exact below_sim ((hb.setCell (p := ⟨w.heap.size + 1, 0, none⟩) (by simp) _).setCell (p := ⟨w.heap.size + 2, 0, none⟩) (by simp) _) (Sim.putObj (w.heap.size + 3) W0.heap.size _ W0.heap.size (.deferred none) (Nat.le_refl _)) (by omega) (by omega)
  case stop =>
    rintro pre W hpre ⟨q, x, rfl, he, b1, b2, hb⟩ hK
    have fin : Hid (lineV s.data.toList n = .tuple #[.string ⟨x.toArray⟩, .bool true]) := by
      obtain ⟨r, hr⟩ := hpre
      unfold lineV; rw [getLine_at _ q x r n (by rw [← hr]; simp) he]; exact Lib.hid rfl
    have k1 := b1.cell 0; have k2 := b2.cell 0
    simp at k1 k2
    gi_wp2
    refine ⟨by simp, .inl ⟨_, _, rfl, run_takeDeferred hK, ?_⟩⟩
    have q1 := b1.sim (Sim.putObj (w.heap.size + 3) W0.heap.size _ W0.heap.size (.deferred none) (Nat.le_refl _)) (by omega) (by omega)
    have q2 := b2.sim (Sim.putObj (w.heap.size + 3) W0.heap.size _ W0.heap.size (.deferred none) (Nat.le_refl _)) (by omega) (by omega)
    have q1 := q1.cell 0; have q2 := q2.cell 0
    simp at q1 q2
    refine ⟨.tuple #[.string ⟨x.toArray⟩, .bool true], ?_, by rw [fin.out], ?_⟩
    · simp [results, Tryd.results56, go_sem, q1, q2]
    · exact below_sim hb (Sim.putObj (w.heap.size + 3) W0.heap.size _ W0.heap.size (.deferred none) (Nat.le_refl _)) (by omega) (by omega)

end Go.Proofs.YtdphhmigbbgjmaaDoor
end
