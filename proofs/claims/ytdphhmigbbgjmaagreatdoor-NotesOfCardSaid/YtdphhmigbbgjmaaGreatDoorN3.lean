/- errors.As at the target *api.Fault: the walks. The error is such a Fault (nil or not), or holds one, or none. errors.Is of a *api.Fault at its own number: Go's text walked once. Turned from the kit's worked example of errors.Is (Sentry). No condition but that the Fault lies in memory. colophonlaw16.Is: is an error the Fault that is wanted? Of none, and of such a Fault. Condition: the handle of the type error lies as laid. -/
import Derived.Test.YtdphhmigbbgjmaaGreatDoorAs
import Derived.Test.YtdphhmigbbgjmaaGreatDoorProg
import Derived.OwnWalk
import Derived.WalkKit
import Derived.LaidEql
import Derived.Stop.Asserts
import Derived.RowKitTokens
import Derived.Deep.QuietTactic
import Derived.Deep.RegionWith
import Derived.BigQuiet
import Derived.Lib.Hide
section
namespace Go.Proofs.YtdphhmigbbgjmaaGreatDoor
open Go.RowKit Go.Extern.Stop Go.Stop Go.Extern
set_option maxHeartbeats 4000000 in
/-- The error is a *api.Fault, nil or not. -/
theorem as_hit (e : Option Addr) (t : Addr) (old : Value) (w : World) (hg : ErrT w) (ht0 : w.cell? t = some old) (hf0 : w.frozen? t = false) :
    Calls Tryz.prog 15 #[.iface 55 (.pointer e), .iface 57 (.pointer (some t))] w fun ev w' => ev = .returned (.bool true) ∧ w' = ((((w.alloc (.cells #[.pointer (some t)] 57)).alloc (.cells #[hnd 57, .pointer (some ⟨w.heap.size, 0, none⟩), .int .u64 150] 75)).alloc (.cells #[hnd 57, .pointer (some ⟨w.heap.size, 0, none⟩), .int .u64 150] 75)).alloc (.cells #[.pointer e] 55)).setCell t (.pointer e) := by
  have hVO := @run_callFunc_extern Tryz.prog 24 _ (fun args => ReflectliteValue.unpack (args.getD 0 (.tuple #[]))) Tryz.func24 (by kernel_rfl) (by kernel_rfl) (by kernel_rfl) (by kernel_rfl)
  have hTy := @run_callFunc_extern Tryz.prog 25 _ (ReflectliteValue.methodAny (ReflectliteValue.valueError "reflectlite.Value.Type" 0) (fun t _ _ _ => ReflectliteType.toType t)) Tryz.func25 (by kernel_rfl) (by kernel_rfl) (by kernel_rfl) (by kernel_rfl)
  have hIN := @run_callFunc_extern Tryz.prog 26 _ (ReflectliteValue.method (ReflectliteValue.valueError "reflectlite.Value.IsNil" 0) ReflectliteValue.isNil) Tryz.func26 (by kernel_rfl) (by kernel_rfl) (by kernel_rfl) (by kernel_rfl)
  have hKi := @run_callFunc_extern Tryz.prog 122 _ (ReflectliteType.abiMethod fun t => do pure (.int .u8 (← Rtype.kind t))) Tryz.func122 (by kernel_rfl) (by kernel_rfl) (by kernel_rfl) (by kernel_rfl)
  have hEl := @run_callFunc_extern Tryz.prog 135 _ (ReflectliteType.method ReflectliteType.elem) Tryz.func135 (by kernel_rfl) (by kernel_rfl) (by kernel_rfl) (by kernel_rfl)
  have hIm := @run_callFunc_extern Tryz.prog 136 _ (ReflectliteType.relation "Implements" ReflectliteType.implements_) Tryz.func136 (by kernel_rfl) (by kernel_rfl) (by kernel_rfl) (by kernel_rfl)
  have hTO := @run_callFunc_extern Tryz.prog 28 _ ReflectliteType.typeOf Tryz.func28 (by kernel_rfl) (by kernel_rfl) (by kernel_rfl) (by kernel_rfl)
  have hAT := @run_callFunc_extern Tryz.prog 133 _ (ReflectliteType.relation "AssignableTo" ReflectliteType.assignableTo) Tryz.func133 (by kernel_rfl) (by kernel_rfl) (by kernel_rfl) (by kernel_rfl)
  have hEV := @run_callFunc_extern Tryz.prog 42 _ (ReflectliteValue.method (ReflectliteValue.valueError "reflectlite.Value.Elem" 0) ReflectliteValue.elem) Tryz.func42 (by kernel_rfl) (by kernel_rfl) (by kernel_rfl) (by kernel_rfl)
  have hSe := @run_callFunc_extern Tryz.prog 43 _ ReflectliteValue.set Tryz.func43 (by kernel_rfl) (by kernel_rfl) (by kernel_rfl) (by kernel_rfl)
  have f1 := as_typeOf1
  have f2 := as_methodAssignableTo
  have f3 := as_assignable1
  have f4 := as_valueOf1 e
  have f5 := as_valueOf2
  have f6 := as_type2
  have f7 := as_methodKind
  have f8 := as_methodElem
  have f9 := as_methodImplements
  have f10 := as_kind2
  have f11 := as_kind1
  have f12 := as_elem2
  have f13 := as_implements1
  have n8 := as_isNil2 ⟨w.heap.size, 0, none⟩ t ((w.alloc (.cells #[.pointer (some t)] 57)).alloc (.cells #[hnd 57, .pointer (some ⟨w.heap.size, 0, none⟩), .int .u64 150] 75)) (by simp)
  have hlt : 0 < w.heap.size := by
    by_cases h : 0 < w.heap.size
    · exact h
    · unfold ErrT at hg; simp [World.cell?, Array.getElem?_eq_none (Nat.le_of_not_lt h)] at hg
  have hg2 : ((w.alloc (.cells #[.pointer (some t)] 57)).alloc (.cells #[hnd 57, .pointer (some ⟨w.heap.size, 0, none⟩), .int .u64 150] 75)).cell? ⟨0, 0, none⟩ = some (.iface 99 (.agg #[hnd 32])) := by
    rw [World.cell?_alloc_lt _ _ ⟨0, 0, none⟩ (by simp <;> omega), World.cell?_alloc_lt _ _ ⟨0, 0, none⟩ hlt]; exact hg
  have htl : t.block < w.heap.size := by
    rcases Nat.lt_or_ge t.block w.heap.size with h | h
    · exact h
    · simp [World.cell?, Array.getElem?_eq_none h] at ht0
  have el := as_elemV2 ⟨w.heap.size, 0, none⟩ t (((w.alloc (.cells #[.pointer (some t)] 57)).alloc (.cells #[hnd 57, .pointer (some ⟨w.heap.size, 0, none⟩), .int .u64 150] 75)).alloc (.cells #[hnd 57, .pointer (some ⟨w.heap.size, 0, none⟩), .int .u64 150] 75)) (by rw [World.cell?_alloc_lt _ _ ⟨w.heap.size, 0, none⟩ (by simp; omega)]; simp)
  have st := as_set1 t ⟨w.heap.size + 1 + 1 + 1, 0, none⟩ e old ((((w.alloc (.cells #[.pointer (some t)] 57)).alloc (.cells #[hnd 57, .pointer (some ⟨w.heap.size, 0, none⟩), .int .u64 150] 75)).alloc (.cells #[hnd 57, .pointer (some ⟨w.heap.size, 0, none⟩), .int .u64 150] 75)).alloc (.cells #[.pointer e] 55))
    (by rw [World.cell?_alloc_at _ _ _ _ (by simp)]; rfl)
    (by rw [World.cell?_alloc_lt _ _ t (by simp; omega), World.cell?_alloc_lt _ _ t (by simp; omega), World.cell?_alloc_lt _ _ t (by simp; omega), World.cell?_alloc_lt _ _ t htl]; exact ht0)
    (by rw [World.frozen?_alloc_old _ _ t (by simp; omega), World.frozen?_alloc_old _ _ t (by simp; omega), World.frozen?_alloc_old _ _ t (by simp; omega), World.frozen?_alloc_old _ _ t (Nat.ne_of_lt htl)]; exact hf0)
  go_enter Tryz.func15, Tryz.ntmps15
  go_wp2
  refine wp_loop_rounds 1 ?_
  rw [rounds_succ]
  go_wp2
  go_ret
  exact ⟨rfl, rfl⟩
end Go.Proofs.YtdphhmigbbgjmaaGreatDoor
end
section
namespace Go.Proofs.YtdphhmigbbgjmaaGreatDoor
open Go.RowKit Go.Extern.Stop Go.Stop Go.Extern
theorem eql_iface_int {P : Program} {ti t : TypeId} {ms : Array (String × TypeId)} {i : TypeInfo} {k : IntKind} (n : Int) (w : World)
    (hi : P.underlying ti = some (.interface ms)) (ht : P.underlying t = some (.int k)) (hinfo : P.info? t = some i) (hcomp : i.comparable = true) :
    (binOp .eql ti (.iface t (.int k n)) (.iface t (.int k n))).run P w = .ok (.bool true) w := by
  have h : ∀ d : Nat, (Op.equalIn (d + 2) ti (.iface t (.int k n)) (.iface t (.int k n))).run P w = .ok true w := fun d => by
    simp [Op.equalIn, run_underlying hi, run_underlying ht, typeInfo, hinfo, hcomp]
  simp only [binOp]
  simp [Op.equal, Op.maxDepth, h 9998]
theorem is_typeOf (v : Value) (w : World) : (ReflectliteType.typeOf #[.iface 24 v]).run Tryz.prog w = .ok (.iface 99 (.agg #[.pointer (some ⟨6, 24, none⟩)])) w := by kernel_rfl
theorem is_comparable (w : World) : ((ReflectliteType.method fun t => do Rtype.noPackHeld "Comparable" t; (fun a => Value.bool a.comparable) <$> typeInfo t) #[.agg #[.pointer (some ⟨6, 24, none⟩)]]).run Tryz.prog w = .ok (.bool true) w := by kernel_rfl
theorem is_methodComparable (v : Value) (w : World) : (Go.method 290 99 v "Comparable").run Tryz.prog w = .ok (134, v) w := by kernel_rfl
theorem is_comp : (Tryz.prog.info? 24).map (·.comparable) = some true := by kernel_rfl
theorem is_noIsF (v : Value) (xT : TypeId) (w : World) : (Instr.typeAssert (.iface 55 v) xT 111 true).run Tryz.prog w = .ok (.tuple #[.nilIface, .bool false]) w := run_typeAssert_lacksB Tryz.underlying111 (by kernel_rfl) (by kernel_rfl) v xT w
theorem is_hasUnwrapF (v : Value) (xT : TypeId) (w : World) : (Instr.typeAssert (.iface 55 v) xT 106 true).run Tryz.prog w = .ok (.tuple #[.iface 55 v, .bool true]) w := run_typeAssert_hasB Tryz.underlying106 (by kernel_rfl) v xT w
theorem is_methodUnwrapF (p : Option Addr) (w : World) : (Go.method 290 55 (.pointer p) "Unwrap").run Tryz.prog w = .ok (127, .pointer p) w := by kernel_rfl
set_option maxRecDepth 100000 in
set_option maxHeartbeats 4000000 in
/-- errors.Is(f, n), f a Fault of number n. -/
theorem is_fault (b : Nat) (c : Int) (w : World) (hc : w.cell? ⟨b, 0, none⟩ = some (.int .i64 c)) :
    Calls Tryz.prog 16 #[.iface 55 (.pointer (some ⟨b, 0, none⟩)), .iface 24 (.int .i64 c)] w fun e w' => e = .returned (.bool true) ∧ w' = w := by
  obtain ⟨i, hi, hcmp⟩ := Option.map_eq_some_iff.1 is_comp
  have hTO := @run_callFunc_extern Tryz.prog 28 _ ReflectliteType.typeOf Tryz.func28 (by kernel_rfl) (by kernel_rfl) (by kernel_rfl) (by kernel_rfl)
  have hCo := @run_callFunc_extern Tryz.prog 134 _ (ReflectliteType.method fun t => do Rtype.noPackHeld "Comparable" t; pure (.bool (← typeInfo t).comparable)) Tryz.func134 (by kernel_rfl) (by kernel_rfl) (by kernel_rfl) (by kernel_rfl)
  have f1 := is_typeOf
  have f2 := is_comparable
  have f3 := is_methodComparable
  have f4 := is_noIsF
  have f5 := is_hasUnwrapF
  have f6 := is_methodUnwrapF
  have heq := eql_iface_int (ti := 32) (t := 24) (k := .i64) c w Tryz.underlying32 Tryz.underlying24 hi hcmp
  have hty := run_eql_iface_types (P := Tryz.prog) 55 24 (.pointer (some ⟨b, 0, none⟩)) (.int .i64 c) Tryz.underlying32 (by decide) w
  go_enter Tryz.func16, Tryz.ntmps16
  go_wp2
  refine wp_loop_rounds 2 ?_
  rw [rounds_succ]
  go_wp2
  rw [rounds_succ]
  go_wp2
  go_ret
  exact ⟨rfl, rfl⟩
end Go.Proofs.YtdphhmigbbgjmaaGreatDoor
end
section
namespace Go.Proofs.YtdphhmigbbgjmaaGreatDoor
open Go.RowKit Go.Lib
set_option linter.unusedVariables false
theorem as_hit' (e : Option Addr) (q : Nat) (w : World) (hg : ErrT w) (hq : Blk w q #[.pointer none] 55) :
    Calls Tryz.prog 15 #[.iface 55 (.pointer e), .iface 57 (.pointer (some ⟨q, 0, none⟩))] w fun ev w' => ev = .returned (.bool true) ∧ Blk w' q #[.pointer e] 55 ∧ Below q w w' := by
  have hlt := hq.lt
  refine (as_hit e ⟨q, 0, none⟩ (.pointer none) w hg (by simpa using hq.cell 0) (hq.frozen 0)).mono ?_
  rintro ev w' ⟨rfl, rfl⟩
  refine ⟨rfl, by have := ((((hq.alloc (.cells #[.pointer (some ⟨q, 0, none⟩)] 57)).alloc (.cells #[hnd 57, .pointer (some ⟨w.heap.size, 0, none⟩), .int .u64 150] 75)).alloc (.cells #[hnd 57, .pointer (some ⟨w.heap.size, 0, none⟩), .int .u64 150] 75)).alloc (.cells #[.pointer e] 55)).set 0 (.pointer e); simpa using this, ?_⟩
  exact (((((Below.refl q w).alloc (by omega) _).alloc (by simp; omega) _).alloc (by simp; omega) _).alloc (by simp; omega) _).setCell (p := ⟨q, 0, none⟩) (Nat.le_refl _) _
theorem law16_Is_none (a l k : Int) (w : World) :
    Calls Tryz.prog 7 #[.nilIface, .agg #[.int .i64 0, .int .i64 a, .int .i64 l, .int .i64 k]] w fun e w' => e = .returned (.bool true) ∧ Below w.heap.size w w' := by
  have hq := Blk.new w #[.int .i64 0, .int .i64 a, .int .i64 l, .int .i64 k] 28
  have hb := (Below.refl w.heap.size w).alloc (Nat.le_refl _) (.cells #[.int .i64 0, .int .i64 a, .int .i64 l, .int .i64 k] 28)
  have k0 := hq.cell 0
  simp at k0
  clear hq
  go_enter Tryz.func7, Tryz.ntmps7
  go_wp2
  go_ret
  exact ⟨rfl, hb⟩
set_option maxRecDepth 100000 in
set_option maxHeartbeats 4000000 in
theorem law16_Is (b : Nat) (c a l k : Int) (hc : c ≠ 0) (w : World) (hT : ErrT w) (hB : Blk w b #[.int .i64 c, .int .i64 a, .int .i64 l, .int .i64 k] 28) :
    Calls Tryz.prog 7 #[.iface 55 (.pointer (some ⟨b, 0, none⟩)), .agg #[.int .i64 c, .int .i64 a, .int .i64 l, .int .i64 k]] w fun e w' => e = .returned (.bool true) ∧ Below w.heap.size w w' := by
  have hq := Blk.new w #[.int .i64 c, .int .i64 a, .int .i64 l, .int .i64 k] 28
  have hb := (Below.refl w.heap.size w).alloc (Nat.le_refl _) (.cells #[.int .i64 c, .int .i64 a, .int .i64 l, .int .i64 k] 28)
  have hb2 := hb.alloc hb.size (.cells #[.pointer none] 55)
  have hBA := (hB.alloc (.cells #[.int .i64 c, .int .i64 a, .int .i64 l, .int .i64 k] 28)).alloc (.cells #[.pointer none] 55)
  have hqA := hq.alloc (.cells #[.pointer none] 55)
  have hf := Blk.new (w.alloc (.cells #[.int .i64 c, .int .i64 a, .int .i64 l, .int .i64 k] 28)) #[.pointer none] 55
  have hAs := as_hit' (some ⟨b, 0, none⟩) _ _ (hT.below hb2) hf
  rw [World.size_alloc] at hAs hf
  have hlt := hB.lt
  have k0 := hq.cell 0
  simp at k0
  have hcb : (c == 0) = false := by simp [hc]
  replace hAs := Lib.hid hAs
  clear hB hT hf hb hq
  go_enter Tryz.func7, Tryz.ntmps7
  go_wp2_with (go_at_call 15; refine hAs.out.mono ?_; rintro e w2 ⟨rfl, hf2, hb3⟩; replace hBA := hBA.below hb3 (by omega); replace hqA := hqA.below hb3 (by omega); have hb4 := hb2.trans (hb3.mono (by omega)); have n0 := hf2.cell 0; simp at n0)
  have c0 := hBA.cell 0; have c1 := hBA.cell 1; have c2 := hBA.cell 2; have c3 := hBA.cell 3
  have d0 := hqA.cell 0; have d1 := hqA.cell 1; have d2 := hqA.cell 2; have d3 := hqA.cell 3
  simp at c0 c1 c2 c3 d0 d1 d2 d3
  have hIs : ∀ W : World, W.cell? ⟨b, 0, none⟩ = some (.int .i64 c) → Calls Tryz.prog 16 #[.iface 55 (.pointer (some ⟨b, 0, none⟩)), .iface 24 (.int .i64 c)] W fun e w' => e = .returned (.bool true) ∧ w' = W := fun W h => is_fault b c W h
  replace hIs := Lib.hid hIs
  clear hAs hBA hqA hf2 hb3 hb2
  go_region_with (go_at_call 16; refine (hIs.out _ (by first | exact c0 | assumption)).mono ?_; rintro e w3 ⟨rfl, hw⟩; rw [hw]; clear hw)
  all_goals (try (go_wp2_with fail))
  all_goals (go_ret; exact ⟨rfl, by first | exact hb4 | exact hb4.drew⟩)
end Go.Proofs.YtdphhmigbbgjmaaGreatDoor
end
