/- errors.As at the target *api.Fault, by its contracts: the error is such a Fault (nil or not), holds one, or none. Turned from the kit's worked example of errors.As. Condition: the package variable of the type error lies as laid. errors.As at the target *api.Fault: the walks. The error is such a Fault (nil or not), or holds one, or none. errors.As at the target *api.Fault: the walks for the law's own errors: one that holds a Fault, one of errors.New's, one that holds such. -/
import Derived.Test.YtdphhmigbbgjmaaDoorM1
import Derived.WalkKit
import Derived.LaidEql
import Derived.Stop.Asserts
import Derived.RowKitTokens
section
namespace Go.Proofs.YtdphhmigbbgjmaaDoor
open Go.RowKit Go.Extern.Stop Go.Stop Go.Extern
/-- The handle of a type, as the model has it. -/
abbrev hnd (t : Nat) : Value := .pointer (some ⟨11, t, none⟩)
/-- The package variable that holds the handle of the type error. -/
def ErrT (w : World) : Prop := w.cell? ⟨0, 0, none⟩ = some (.iface 168 (.agg #[hnd 57]))
theorem ErrT.below {w w' : World} (h : ErrT w) (hb : Below w.heap.size w w') : ErrT w' := (hb.cell (p := ⟨0, 0, none⟩) (by
  unfold ErrT at h
  by_cases hlt : 0 < w.heap.size
  · exact hlt
  · simp [World.cell?, Array.getElem?_eq_none (Nat.le_of_not_lt hlt)] at h)).trans h
/-- errors.As of no error. -/
theorem as_nil (t : Value) (w : World) :
    Calls Tryd.prog 54 #[.nilIface, t] w fun e w' => e = .returned (.bool false) ∧ w' = w := by
  go_enter Tryd.func54, Tryd.ntmps54
  go_wp2
  go_ret
  exact ⟨rfl, rfl⟩
theorem as_valueOf2 (t : Addr) (w : World) : (ReflectliteValue.unpack (.iface 91 (.pointer (some t)))).run Tryd.prog w
    = .ok (.agg #[hnd 91, .pointer (some ⟨w.heap.size, 0, none⟩), .int .u64 150]) (w.alloc (.cells #[.pointer (some t)] 91)) := by kernel_rfl
theorem as_type2 (a : Addr) (w : World) : (ReflectliteValue.methodAny (ReflectliteValue.valueError "reflectlite.Value.Type" 0) (fun t _ _ _ => ReflectliteType.toType t) #[.agg #[hnd 91, .pointer (some a), .int .u64 150]]).run Tryd.prog w
    = .ok (.iface 168 (.agg #[hnd 91])) w := by kernel_rfl
theorem as_methodKind (h : Value) (w : World) : (Go.method 346 168 (.agg #[h]) "Kind").run Tryd.prog w = .ok (204, h) w := by kernel_rfl
theorem as_kind2 (w : World) : ((ReflectliteType.abiMethod fun t => (fun a : Nat => Value.int IntKind.u8 (a : Int)) <$> Rtype.kind t) #[hnd 91]).run Tryd.prog w = .ok (.int .u8 22) w := by kernel_rfl
theorem as_kind1 (w : World) : ((ReflectliteType.abiMethod fun t => (fun a : Nat => Value.int IntKind.u8 (a : Int)) <$> Rtype.kind t) #[hnd 55]).run Tryd.prog w = .ok (.int .u8 22) w := by kernel_rfl
theorem as_rlm (z : Sem Value) (f : TypeId → Addr → Nat → Nat → Sem Value) (v : Value) :
    ReflectliteValue.method z f #[v] = (do match ← ReflectliteValue.parts v with | none => z | some (t, a, fl) => f t a fl (fl % 32)) := rfl
theorem as_parts2 (a : Addr) (w : World) : (ReflectliteValue.parts (.agg #[hnd 91, .pointer (some a), .int .u64 150])).run Tryd.prog w = .ok (some (91, a, 150)) w := by kernel_rfl
theorem as_isNil2 (a p : Addr) (W : World) (ha : W.cell? a = some (.pointer (some p))) :
    (ReflectliteValue.method (ReflectliteValue.valueError "reflectlite.Value.IsNil" 0) ReflectliteValue.isNil #[.agg #[hnd 91, .pointer (some a), .int .u64 150]]).run Tryd.prog W = .ok (.bool false) W := by
  rw [as_rlm]
  simp only [Sem.run_bind, as_parts2, Result.andThen]
  simp [ReflectliteValue.isNil, loadVar, isAgg, underlying, Tryd.underlying91, ha, Result.andThen]
theorem as_methodElem (h : Value) (w : World) : (Go.method 346 168 (.agg #[h]) "Elem").run Tryd.prog w = .ok (218, .agg #[h]) w := by kernel_rfl
theorem as_methodImplements (h : Value) (w : World) : (Go.method 346 168 (.agg #[h]) "Implements").run Tryd.prog w = .ok (219, .agg #[h]) w := by kernel_rfl
theorem as_methodAssignableTo (h : Value) (w : World) : (Go.method 346 168 (.agg #[h]) "AssignableTo").run Tryd.prog w = .ok (216, .agg #[h]) w := by kernel_rfl
theorem as_elem2 (w : World) : (ReflectliteType.method ReflectliteType.elem #[.agg #[hnd 91]]).run Tryd.prog w = .ok (.iface 168 (.agg #[hnd 55])) w := by kernel_rfl
theorem as_implements1 (w : World) : (ReflectliteType.relation "Implements" ReflectliteType.implements_ #[.agg #[hnd 55], .iface 168 (.agg #[hnd 57])]).run Tryd.prog w = .ok (.bool true) w := by kernel_rfl
theorem as_typeOf1 (v : Value) (w : World) : (ReflectliteType.typeOf #[.iface 55 v]).run Tryd.prog w = .ok (.iface 168 (.agg #[hnd 55])) w := by kernel_rfl
theorem as_assignable1 (w : World) : (ReflectliteType.relation "AssignableTo" ReflectliteType.assignableTo #[.agg #[hnd 55], .iface 168 (.agg #[hnd 55])]).run Tryd.prog w = .ok (.bool true) w := by kernel_rfl
theorem as_valueOf1 (e : Option Addr) (w : World) : (ReflectliteValue.unpack (.iface 55 (.pointer e))).run Tryd.prog w
    = .ok (.agg #[hnd 55, .pointer (some ⟨w.heap.size, 0, none⟩), .int .u64 150]) (w.alloc (.cells #[.pointer e] 55)) := by kernel_rfl
theorem as_elemOf2 (w : World) : (Rtype.elem? 91).run Tryd.prog w = .ok (some 55) w := by kernel_rfl
theorem as_mk1 (p : Addr) (w : World) : (ReflectliteValue.mk 55 p ReflectliteValue.flagAddr).run Tryd.prog w = .ok (.agg #[hnd 55, .pointer (some p), .int .u64 406]) w := by kernel_rfl
theorem as_elemV2 (a p : Addr) (W : World) (ha : W.cell? a = some (.pointer (some p))) :
    (ReflectliteValue.method (ReflectliteValue.valueError "reflectlite.Value.Elem" 0) ReflectliteValue.elem #[.agg #[hnd 91, .pointer (some a), .int .u64 150]]).run Tryd.prog W
      = .ok (.agg #[hnd 55, .pointer (some p), .int .u64 406]) W := by
  rw [as_rlm]
  simp only [Sem.run_bind, as_parts2, Result.andThen]
  simp [ReflectliteValue.elem, loadVar, isAgg, underlying, Tryd.underlying91, ha, Result.andThen, as_elemOf2, as_mk1]
theorem as_rls (v x : Value) : ReflectliteValue.set #[v, x] = (do
    let (some (dst, a, fl), some (src, b, _)) := (← ReflectliteValue.parts v, ← ReflectliteValue.parts x)
      | unsupported (.noEntry "extern/(internal/reflectlite.Value).Set.zeroValue")
    if fl / ReflectliteValue.flagAddr % 2 == 0 then unsupported (.noEntry "extern/(internal/reflectlite.Value).Set.unaddressable")
    let val ← loadVar src b
    if ← Rtype.directlyAssignable dst src then storeVar dst a val
    else if ← Rtype.implements dst src then
      if (← Rtype.kind src) == 20 then
        match val with
        | .nilIface => unsupported (.noEntry "extern/reflectlite: a nil value of one interface type handed on as a value of another")
        | _ => storeVar dst a val
      else storeVar dst a (.iface src val)
    else panicString ("reflectlite.Set: value of type " ++ (← Rtype.spelt src) ++ " is not assignable to type " ++ (← Rtype.spelt dst))
    pure (.tuple #[])) := rfl
theorem as_parts1a (a : Addr) (w : World) : (ReflectliteValue.parts (.agg #[hnd 55, .pointer (some a), .int .u64 406])).run Tryd.prog w = .ok (some (55, a, 406)) w := by kernel_rfl
theorem as_parts1 (a : Addr) (w : World) : (ReflectliteValue.parts (.agg #[hnd 55, .pointer (some a), .int .u64 150])).run Tryd.prog w = .ok (some (55, a, 150)) w := by kernel_rfl
theorem as_direct1 (w : World) : (Rtype.directlyAssignable 55 55).run Tryd.prog w = .ok true w := by kernel_rfl
theorem as_set1 (ta b : Addr) (e : Option Addr) (old : Value) (W : World) (hb : W.cell? b = some (.pointer e)) (ht : W.cell? ta = some old) (hf : W.frozen? ta = false) :
    (ReflectliteValue.set #[.agg #[hnd 55, .pointer (some ta), .int .u64 406], .agg #[hnd 55, .pointer (some b), .int .u64 150]]).run Tryd.prog W
      = .ok (.tuple #[]) (W.setCell ta (.pointer e)) := by
  rw [as_rls]
  simp only [Sem.run_bind, as_parts1a, as_parts1, Result.andThen]
  simp [ReflectliteValue.flagAddr, loadVar, isAgg, underlying, Tryd.underlying55, hb, Result.andThen, as_direct1, storeVar, Value.cells, storeCells, Addr.add]
  rw [run_store Tryd.prog W ta _ _ (by rfl)]
  simp [ht, hf]
end Go.Proofs.YtdphhmigbbgjmaaDoor
end
section
namespace Go.Proofs.YtdphhmigbbgjmaaDoor
open Go.RowKit Go.Extern.Stop Go.Stop Go.Extern
set_option maxHeartbeats 4000000 in
/-- The error is a *api.Fault, nil or not. -/
theorem as_hit (e : Option Addr) (t : Addr) (old : Value) (w : World) (hg : ErrT w) (ht0 : w.cell? t = some old) (hf0 : w.frozen? t = false) :
    Calls Tryd.prog 54 #[.iface 55 (.pointer e), .iface 91 (.pointer (some t))] w fun ev w' => ev = .returned (.bool true) ∧ w' = ((((w.alloc (.cells #[.pointer (some t)] 91)).alloc (.cells #[hnd 91, .pointer (some ⟨w.heap.size, 0, none⟩), .int .u64 150] 125)).alloc (.cells #[hnd 91, .pointer (some ⟨w.heap.size, 0, none⟩), .int .u64 150] 125)).alloc (.cells #[.pointer e] 55)).setCell t (.pointer e) := by
  have hVO := @run_callFunc_extern Tryd.prog 99 _ (fun args => ReflectliteValue.unpack (args.getD 0 (.tuple #[]))) Tryd.func99 (by kernel_rfl) (by kernel_rfl) (by kernel_rfl) (by kernel_rfl)
  have hTy := @run_callFunc_extern Tryd.prog 100 _ (ReflectliteValue.methodAny (ReflectliteValue.valueError "reflectlite.Value.Type" 0) (fun t _ _ _ => ReflectliteType.toType t)) Tryd.func100 (by kernel_rfl) (by kernel_rfl) (by kernel_rfl) (by kernel_rfl)
  have hIN := @run_callFunc_extern Tryd.prog 101 _ (ReflectliteValue.method (ReflectliteValue.valueError "reflectlite.Value.IsNil" 0) ReflectliteValue.isNil) Tryd.func101 (by kernel_rfl) (by kernel_rfl) (by kernel_rfl) (by kernel_rfl)
  have hKi := @run_callFunc_extern Tryd.prog 204 _ (ReflectliteType.abiMethod fun t => do pure (.int .u8 (← Rtype.kind t))) Tryd.func204 (by kernel_rfl) (by kernel_rfl) (by kernel_rfl) (by kernel_rfl)
  have hEl := @run_callFunc_extern Tryd.prog 218 _ (ReflectliteType.method ReflectliteType.elem) Tryd.func218 (by kernel_rfl) (by kernel_rfl) (by kernel_rfl) (by kernel_rfl)
  have hIm := @run_callFunc_extern Tryd.prog 219 _ (ReflectliteType.relation "Implements" ReflectliteType.implements_) Tryd.func219 (by kernel_rfl) (by kernel_rfl) (by kernel_rfl) (by kernel_rfl)
  have hTO := @run_callFunc_extern Tryd.prog 141 _ ReflectliteType.typeOf Tryd.func141 (by kernel_rfl) (by kernel_rfl) (by kernel_rfl) (by kernel_rfl)
  have hAT := @run_callFunc_extern Tryd.prog 216 _ (ReflectliteType.relation "AssignableTo" ReflectliteType.assignableTo) Tryd.func216 (by kernel_rfl) (by kernel_rfl) (by kernel_rfl) (by kernel_rfl)
  have hEV := @run_callFunc_extern Tryd.prog 142 _ (ReflectliteValue.method (ReflectliteValue.valueError "reflectlite.Value.Elem" 0) ReflectliteValue.elem) Tryd.func142 (by kernel_rfl) (by kernel_rfl) (by kernel_rfl) (by kernel_rfl)
  have hSe := @run_callFunc_extern Tryd.prog 143 _ ReflectliteValue.set Tryd.func143 (by kernel_rfl) (by kernel_rfl) (by kernel_rfl) (by kernel_rfl)
  have f1 := as_typeOf1
  have f2 := as_methodAssignableTo
  have f3 := as_assignable1
  have f4 := as_valueOf1 e
  have f5 := as_valueOf2
  have f6 := as_type2
  have f7 := as_methodKind
  have f8 := as_methodElem
  have f9 := as_methodImplements
  have f10 := as_kind2
  have f11 := as_kind1
  have f12 := as_elem2
  have f13 := as_implements1
  have n8 := as_isNil2 ⟨w.heap.size, 0, none⟩ t ((w.alloc (.cells #[.pointer (some t)] 91)).alloc (.cells #[hnd 91, .pointer (some ⟨w.heap.size, 0, none⟩), .int .u64 150] 125)) (by simp)
  have hlt : 0 < w.heap.size := by
    by_cases h : 0 < w.heap.size
    · exact h
    · unfold ErrT at hg; simp [World.cell?, Array.getElem?_eq_none (Nat.le_of_not_lt h)] at hg
  have hg2 : ((w.alloc (.cells #[.pointer (some t)] 91)).alloc (.cells #[hnd 91, .pointer (some ⟨w.heap.size, 0, none⟩), .int .u64 150] 125)).cell? ⟨0, 0, none⟩ = some (.iface 168 (.agg #[hnd 57])) := by
    rw [World.cell?_alloc_lt _ _ ⟨0, 0, none⟩ (by simp <;> omega), World.cell?_alloc_lt _ _ ⟨0, 0, none⟩ hlt]; exact hg
  have htl : t.block < w.heap.size := by
    rcases Nat.lt_or_ge t.block w.heap.size with h | h
    · exact h
    · simp [World.cell?, Array.getElem?_eq_none h] at ht0
  have el := as_elemV2 ⟨w.heap.size, 0, none⟩ t (((w.alloc (.cells #[.pointer (some t)] 91)).alloc (.cells #[hnd 91, .pointer (some ⟨w.heap.size, 0, none⟩), .int .u64 150] 125)).alloc (.cells #[hnd 91, .pointer (some ⟨w.heap.size, 0, none⟩), .int .u64 150] 125)) (by rw [World.cell?_alloc_lt _ _ ⟨w.heap.size, 0, none⟩ (by simp; omega)]; simp)
  have st := as_set1 t ⟨w.heap.size + 1 + 1 + 1, 0, none⟩ e old ((((w.alloc (.cells #[.pointer (some t)] 91)).alloc (.cells #[hnd 91, .pointer (some ⟨w.heap.size, 0, none⟩), .int .u64 150] 125)).alloc (.cells #[hnd 91, .pointer (some ⟨w.heap.size, 0, none⟩), .int .u64 150] 125)).alloc (.cells #[.pointer e] 55))
    (by rw [World.cell?_alloc_at _ _ _ _ (by simp)]; rfl)
    (by rw [World.cell?_alloc_lt _ _ t (by simp; omega), World.cell?_alloc_lt _ _ t (by simp; omega), World.cell?_alloc_lt _ _ t (by simp; omega), World.cell?_alloc_lt _ _ t htl]; exact ht0)
    (by rw [World.frozen?_alloc_old _ _ t (by simp; omega), World.frozen?_alloc_old _ _ t (by simp; omega), World.frozen?_alloc_old _ _ t (by simp; omega), World.frozen?_alloc_old _ _ t (Nat.ne_of_lt htl)]; exact hf0)
  go_enter Tryd.func54, Tryd.ntmps54
  go_wp2
  refine wp_loop_rounds 1 ?_
  rw [rounds_succ]
  go_wp2
  go_ret
  exact ⟨rfl, rfl⟩
end Go.Proofs.YtdphhmigbbgjmaaDoor
end
section
namespace Go.Proofs.YtdphhmigbbgjmaaDoor
open Go.RowKit Go.Extern.Stop Go.Stop Go.Extern
/-! Facts on the other errors: Word (no As, an Unwrap), errors.New's (neither). -/
theorem as_typeOfW (v : Value) (w : World) : (ReflectliteType.typeOf #[.iface 59 v]).run Tryd.prog w = .ok (.iface 168 (.agg #[hnd 59])) w := by kernel_rfl
theorem as_assignableW (w : World) : (ReflectliteType.relation "AssignableTo" ReflectliteType.assignableTo #[.agg #[hnd 59], .iface 168 (.agg #[hnd 55])]).run Tryd.prog w = .ok (.bool false) w := by kernel_rfl
theorem as_noAsW (v : Value) (xT : TypeId) (w : World) : (Instr.typeAssert (.iface 59 v) xT 173 true).run Tryd.prog w = .ok (.tuple #[.nilIface, .bool false]) w := run_typeAssert_lacksB Tryd.underlying173 (by kernel_rfl) (by kernel_rfl) v xT w
theorem as_hasUnwrapW (v : Value) (xT : TypeId) (w : World) : (Instr.typeAssert (.iface 59 v) xT 176 true).run Tryd.prog w = .ok (.tuple #[.iface 59 v, .bool true]) w := run_typeAssert_hasB Tryd.underlying176 (by kernel_rfl) v xT w
theorem as_methodUnwrapW (a b : Value) (w : World) : (Go.method 346 59 (.agg #[a, b]) "Unwrap").run Tryd.prog w = .ok (209, .agg #[a, b]) w := by kernel_rfl
theorem as_typeOfE (v : Value) (w : World) : (ReflectliteType.typeOf #[.iface 95 v]).run Tryd.prog w = .ok (.iface 168 (.agg #[hnd 95])) w := by kernel_rfl
theorem as_assignableE (w : World) : (ReflectliteType.relation "AssignableTo" ReflectliteType.assignableTo #[.agg #[hnd 95], .iface 168 (.agg #[hnd 55])]).run Tryd.prog w = .ok (.bool false) w := by kernel_rfl
theorem as_noAsE (v : Value) (xT : TypeId) (w : World) : (Instr.typeAssert (.iface 95 v) xT 173 true).run Tryd.prog w = .ok (.tuple #[.nilIface, .bool false]) w := run_typeAssert_lacksB Tryd.underlying173 (by kernel_rfl) (by kernel_rfl) v xT w
theorem as_noUnwrapE (v : Value) (xT : TypeId) (w : World) : (Instr.typeAssert (.iface 95 v) xT 176 true).run Tryd.prog w = .ok (.tuple #[.nilIface, .bool false]) w := run_typeAssert_lacksB Tryd.underlying176 (by kernel_rfl) (by kernel_rfl) v xT w
theorem as_noUnwrapsE (v : Value) (xT : TypeId) (w : World) : (Instr.typeAssert (.iface 95 v) xT 178 true).run Tryd.prog w = .ok (.tuple #[.nilIface, .bool false]) w := run_typeAssert_lacksB Tryd.underlying178 (by kernel_rfl) (by kernel_rfl) v xT w
set_option maxRecDepth 100000 in
set_option maxHeartbeats 4000000 in
/-- The error holds a *api.Fault. -/
theorem as_hold (s : ByteArray) (e : Option Addr) (t : Addr) (old : Value) (w : World) (hg : ErrT w) (ht0 : w.cell? t = some old) (hf0 : w.frozen? t = false) :
    Calls Tryd.prog 54 #[.iface 59 (.agg #[.string s, .iface 55 (.pointer e)]), .iface 91 (.pointer (some t))] w fun ev w' => ev = .returned (.bool true) ∧ w' = (((((w.alloc (.cells #[.pointer (some t)] 91)).alloc (.cells #[hnd 91, .pointer (some ⟨w.heap.size, 0, none⟩), .int .u64 150] 125)).alloc (.cells #[hnd 91, .pointer (some ⟨w.heap.size, 0, none⟩), .int .u64 150] 125)).alloc (.cells #[.string s, .iface 55 (.pointer e)] 59)).alloc (.cells #[.pointer e] 55)).setCell t (.pointer e) := by
  have hVO := @run_callFunc_extern Tryd.prog 99 _ (fun args => ReflectliteValue.unpack (args.getD 0 (.tuple #[]))) Tryd.func99 (by kernel_rfl) (by kernel_rfl) (by kernel_rfl) (by kernel_rfl)
  have hTy := @run_callFunc_extern Tryd.prog 100 _ (ReflectliteValue.methodAny (ReflectliteValue.valueError "reflectlite.Value.Type" 0) (fun t _ _ _ => ReflectliteType.toType t)) Tryd.func100 (by kernel_rfl) (by kernel_rfl) (by kernel_rfl) (by kernel_rfl)
  have hIN := @run_callFunc_extern Tryd.prog 101 _ (ReflectliteValue.method (ReflectliteValue.valueError "reflectlite.Value.IsNil" 0) ReflectliteValue.isNil) Tryd.func101 (by kernel_rfl) (by kernel_rfl) (by kernel_rfl) (by kernel_rfl)
  have hKi := @run_callFunc_extern Tryd.prog 204 _ (ReflectliteType.abiMethod fun t => do pure (.int .u8 (← Rtype.kind t))) Tryd.func204 (by kernel_rfl) (by kernel_rfl) (by kernel_rfl) (by kernel_rfl)
  have hEl := @run_callFunc_extern Tryd.prog 218 _ (ReflectliteType.method ReflectliteType.elem) Tryd.func218 (by kernel_rfl) (by kernel_rfl) (by kernel_rfl) (by kernel_rfl)
  have hIm := @run_callFunc_extern Tryd.prog 219 _ (ReflectliteType.relation "Implements" ReflectliteType.implements_) Tryd.func219 (by kernel_rfl) (by kernel_rfl) (by kernel_rfl) (by kernel_rfl)
  have hTO := @run_callFunc_extern Tryd.prog 141 _ ReflectliteType.typeOf Tryd.func141 (by kernel_rfl) (by kernel_rfl) (by kernel_rfl) (by kernel_rfl)
  have hAT := @run_callFunc_extern Tryd.prog 216 _ (ReflectliteType.relation "AssignableTo" ReflectliteType.assignableTo) Tryd.func216 (by kernel_rfl) (by kernel_rfl) (by kernel_rfl) (by kernel_rfl)
  have hEV := @run_callFunc_extern Tryd.prog 142 _ (ReflectliteValue.method (ReflectliteValue.valueError "reflectlite.Value.Elem" 0) ReflectliteValue.elem) Tryd.func142 (by kernel_rfl) (by kernel_rfl) (by kernel_rfl) (by kernel_rfl)
  have hSe := @run_callFunc_extern Tryd.prog 143 _ ReflectliteValue.set Tryd.func143 (by kernel_rfl) (by kernel_rfl) (by kernel_rfl) (by kernel_rfl)
  have f1 := as_typeOf1
  have f2 := as_methodAssignableTo
  have f3 := as_assignable1
  have f5 := as_valueOf2
  have f6 := as_type2
  have f7 := as_methodKind
  have f8 := as_methodElem
  have f9 := as_methodImplements
  have f10 := as_kind2
  have f11 := as_kind1
  have f12 := as_elem2
  have f13 := as_implements1
  have g1 := as_typeOfW
  have g2 := as_assignableW
  have g3 := as_noAsW
  have g4 := as_hasUnwrapW
  have g5 := as_methodUnwrapW
  have f4 := as_valueOf1 e
  have n8 := as_isNil2 ⟨w.heap.size, 0, none⟩ t ((w.alloc (.cells #[.pointer (some t)] 91)).alloc (.cells #[hnd 91, .pointer (some ⟨w.heap.size, 0, none⟩), .int .u64 150] 125)) (by simp)
  have hlt : 0 < w.heap.size := by
    by_cases h : 0 < w.heap.size
    · exact h
    · unfold ErrT at hg; simp [World.cell?, Array.getElem?_eq_none (Nat.le_of_not_lt h)] at hg
  have hg2 : ((w.alloc (.cells #[.pointer (some t)] 91)).alloc (.cells #[hnd 91, .pointer (some ⟨w.heap.size, 0, none⟩), .int .u64 150] 125)).cell? ⟨0, 0, none⟩ = some (.iface 168 (.agg #[hnd 57])) := by
    rw [World.cell?_alloc_lt _ _ ⟨0, 0, none⟩ (by simp <;> omega), World.cell?_alloc_lt _ _ ⟨0, 0, none⟩ hlt]; exact hg
  have htl : t.block < w.heap.size := by
    rcases Nat.lt_or_ge t.block w.heap.size with h | h
    · exact h
    · simp [World.cell?, Array.getElem?_eq_none h] at ht0
  have el := as_elemV2 ⟨w.heap.size, 0, none⟩ t ((((w.alloc (.cells #[.pointer (some t)] 91)).alloc (.cells #[hnd 91, .pointer (some ⟨w.heap.size, 0, none⟩), .int .u64 150] 125)).alloc (.cells #[hnd 91, .pointer (some ⟨w.heap.size, 0, none⟩), .int .u64 150] 125)).alloc (.cells #[.string s, .iface 55 (.pointer e)] 59)) (by rw [World.cell?_alloc_lt _ _ ⟨w.heap.size, 0, none⟩ (by simp; omega), World.cell?_alloc_lt _ _ ⟨w.heap.size, 0, none⟩ (by simp; omega)]; simp)
  have st := as_set1 t ⟨w.heap.size + 1 + 1 + 1 + 1, 0, none⟩ e old (((((w.alloc (.cells #[.pointer (some t)] 91)).alloc (.cells #[hnd 91, .pointer (some ⟨w.heap.size, 0, none⟩), .int .u64 150] 125)).alloc (.cells #[hnd 91, .pointer (some ⟨w.heap.size, 0, none⟩), .int .u64 150] 125)).alloc (.cells #[.string s, .iface 55 (.pointer e)] 59)).alloc (.cells #[.pointer e] 55))
    (by rw [World.cell?_alloc_at _ _ _ _ (by simp)]; rfl)
    (by rw [World.cell?_alloc_lt _ _ t (by simp; omega), World.cell?_alloc_lt _ _ t (by simp; omega), World.cell?_alloc_lt _ _ t (by simp; omega), World.cell?_alloc_lt _ _ t (by simp; omega), World.cell?_alloc_lt _ _ t htl]; exact ht0)
    (by rw [World.frozen?_alloc_old _ _ t (by simp; omega), World.frozen?_alloc_old _ _ t (by simp; omega), World.frozen?_alloc_old _ _ t (by simp; omega), World.frozen?_alloc_old _ _ t (by simp; omega), World.frozen?_alloc_old _ _ t (Nat.ne_of_lt htl)]; exact hf0)
  go_enter Tryd.func54, Tryd.ntmps54
  go_wp2
  refine wp_loop_rounds 2 ?_
  rw [rounds_succ]
  go_wp2
  rw [rounds_succ]
  go_wp2
  go_ret
  exact ⟨rfl, rfl⟩
set_option maxRecDepth 100000 in
set_option maxHeartbeats 4000000 in
/-- The error is one of errors.New's. -/
theorem as_miss (a t : Addr) (old : Value) (w : World) (hg : ErrT w) (ht0 : w.cell? t = some old)  :
    Calls Tryd.prog 54 #[.iface 95 (.pointer (some a)), .iface 91 (.pointer (some t))] w fun ev w' => ev = .returned (.bool false) ∧ w' = (((w.alloc (.cells #[.pointer (some t)] 91)).alloc (.cells #[hnd 91, .pointer (some ⟨w.heap.size, 0, none⟩), .int .u64 150] 125)).alloc (.cells #[hnd 91, .pointer (some ⟨w.heap.size, 0, none⟩), .int .u64 150] 125)) := by
  have hVO := @run_callFunc_extern Tryd.prog 99 _ (fun args => ReflectliteValue.unpack (args.getD 0 (.tuple #[]))) Tryd.func99 (by kernel_rfl) (by kernel_rfl) (by kernel_rfl) (by kernel_rfl)
  have hTy := @run_callFunc_extern Tryd.prog 100 _ (ReflectliteValue.methodAny (ReflectliteValue.valueError "reflectlite.Value.Type" 0) (fun t _ _ _ => ReflectliteType.toType t)) Tryd.func100 (by kernel_rfl) (by kernel_rfl) (by kernel_rfl) (by kernel_rfl)
  have hIN := @run_callFunc_extern Tryd.prog 101 _ (ReflectliteValue.method (ReflectliteValue.valueError "reflectlite.Value.IsNil" 0) ReflectliteValue.isNil) Tryd.func101 (by kernel_rfl) (by kernel_rfl) (by kernel_rfl) (by kernel_rfl)
  have hKi := @run_callFunc_extern Tryd.prog 204 _ (ReflectliteType.abiMethod fun t => do pure (.int .u8 (← Rtype.kind t))) Tryd.func204 (by kernel_rfl) (by kernel_rfl) (by kernel_rfl) (by kernel_rfl)
  have hEl := @run_callFunc_extern Tryd.prog 218 _ (ReflectliteType.method ReflectliteType.elem) Tryd.func218 (by kernel_rfl) (by kernel_rfl) (by kernel_rfl) (by kernel_rfl)
  have hIm := @run_callFunc_extern Tryd.prog 219 _ (ReflectliteType.relation "Implements" ReflectliteType.implements_) Tryd.func219 (by kernel_rfl) (by kernel_rfl) (by kernel_rfl) (by kernel_rfl)
  have hTO := @run_callFunc_extern Tryd.prog 141 _ ReflectliteType.typeOf Tryd.func141 (by kernel_rfl) (by kernel_rfl) (by kernel_rfl) (by kernel_rfl)
  have hAT := @run_callFunc_extern Tryd.prog 216 _ (ReflectliteType.relation "AssignableTo" ReflectliteType.assignableTo) Tryd.func216 (by kernel_rfl) (by kernel_rfl) (by kernel_rfl) (by kernel_rfl)
  have hEV := @run_callFunc_extern Tryd.prog 142 _ (ReflectliteValue.method (ReflectliteValue.valueError "reflectlite.Value.Elem" 0) ReflectliteValue.elem) Tryd.func142 (by kernel_rfl) (by kernel_rfl) (by kernel_rfl) (by kernel_rfl)
  have hSe := @run_callFunc_extern Tryd.prog 143 _ ReflectliteValue.set Tryd.func143 (by kernel_rfl) (by kernel_rfl) (by kernel_rfl) (by kernel_rfl)
  have f1 := as_typeOf1
  have f2 := as_methodAssignableTo
  have f3 := as_assignable1
  have f5 := as_valueOf2
  have f6 := as_type2
  have f7 := as_methodKind
  have f8 := as_methodElem
  have f9 := as_methodImplements
  have f10 := as_kind2
  have f11 := as_kind1
  have f12 := as_elem2
  have f13 := as_implements1
  have g1 := as_typeOfW
  have g2 := as_assignableW
  have g3 := as_noAsW
  have g4 := as_hasUnwrapW
  have g5 := as_methodUnwrapW
  have g6 := as_typeOfE
  have g7 := as_assignableE
  have g8 := as_noAsE
  have g9 := as_noUnwrapE
  have g10 := as_noUnwrapsE
  have n8 := as_isNil2 ⟨w.heap.size, 0, none⟩ t ((w.alloc (.cells #[.pointer (some t)] 91)).alloc (.cells #[hnd 91, .pointer (some ⟨w.heap.size, 0, none⟩), .int .u64 150] 125)) (by simp)
  have hlt : 0 < w.heap.size := by
    by_cases h : 0 < w.heap.size
    · exact h
    · unfold ErrT at hg; simp [World.cell?, Array.getElem?_eq_none (Nat.le_of_not_lt h)] at hg
  have hg2 : ((w.alloc (.cells #[.pointer (some t)] 91)).alloc (.cells #[hnd 91, .pointer (some ⟨w.heap.size, 0, none⟩), .int .u64 150] 125)).cell? ⟨0, 0, none⟩ = some (.iface 168 (.agg #[hnd 57])) := by
    rw [World.cell?_alloc_lt _ _ ⟨0, 0, none⟩ (by simp <;> omega), World.cell?_alloc_lt _ _ ⟨0, 0, none⟩ hlt]; exact hg
  have htl : t.block < w.heap.size := by
    rcases Nat.lt_or_ge t.block w.heap.size with h | h
    · exact h
    · simp [World.cell?, Array.getElem?_eq_none h] at ht0
  have el := as_elemV2 ⟨w.heap.size, 0, none⟩ t (((w.alloc (.cells #[.pointer (some t)] 91)).alloc (.cells #[hnd 91, .pointer (some ⟨w.heap.size, 0, none⟩), .int .u64 150] 125)).alloc (.cells #[hnd 91, .pointer (some ⟨w.heap.size, 0, none⟩), .int .u64 150] 125)) (by rw [World.cell?_alloc_lt _ _ ⟨w.heap.size, 0, none⟩ (by simp; omega)]; simp)
  go_enter Tryd.func54, Tryd.ntmps54
  go_wp2
  refine wp_loop_rounds 1 ?_
  rw [rounds_succ]
  go_wp2
  go_ret
  exact ⟨rfl, rfl⟩
set_option maxRecDepth 100000 in
set_option maxHeartbeats 4000000 in
/-- The error holds one of errors.New's. -/
theorem as_holdmiss (s : ByteArray) (a t : Addr) (old : Value) (w : World) (hg : ErrT w) (ht0 : w.cell? t = some old)  :
    Calls Tryd.prog 54 #[.iface 59 (.agg #[.string s, .iface 95 (.pointer (some a))]), .iface 91 (.pointer (some t))] w fun ev w' => ev = .returned (.bool false) ∧ w' = ((((w.alloc (.cells #[.pointer (some t)] 91)).alloc (.cells #[hnd 91, .pointer (some ⟨w.heap.size, 0, none⟩), .int .u64 150] 125)).alloc (.cells #[hnd 91, .pointer (some ⟨w.heap.size, 0, none⟩), .int .u64 150] 125)).alloc (.cells #[.string s, .iface 95 (.pointer (some a))] 59)) := by
  have hVO := @run_callFunc_extern Tryd.prog 99 _ (fun args => ReflectliteValue.unpack (args.getD 0 (.tuple #[]))) Tryd.func99 (by kernel_rfl) (by kernel_rfl) (by kernel_rfl) (by kernel_rfl)
  have hTy := @run_callFunc_extern Tryd.prog 100 _ (ReflectliteValue.methodAny (ReflectliteValue.valueError "reflectlite.Value.Type" 0) (fun t _ _ _ => ReflectliteType.toType t)) Tryd.func100 (by kernel_rfl) (by kernel_rfl) (by kernel_rfl) (by kernel_rfl)
  have hIN := @run_callFunc_extern Tryd.prog 101 _ (ReflectliteValue.method (ReflectliteValue.valueError "reflectlite.Value.IsNil" 0) ReflectliteValue.isNil) Tryd.func101 (by kernel_rfl) (by kernel_rfl) (by kernel_rfl) (by kernel_rfl)
  have hKi := @run_callFunc_extern Tryd.prog 204 _ (ReflectliteType.abiMethod fun t => do pure (.int .u8 (← Rtype.kind t))) Tryd.func204 (by kernel_rfl) (by kernel_rfl) (by kernel_rfl) (by kernel_rfl)
  have hEl := @run_callFunc_extern Tryd.prog 218 _ (ReflectliteType.method ReflectliteType.elem) Tryd.func218 (by kernel_rfl) (by kernel_rfl) (by kernel_rfl) (by kernel_rfl)
  have hIm := @run_callFunc_extern Tryd.prog 219 _ (ReflectliteType.relation "Implements" ReflectliteType.implements_) Tryd.func219 (by kernel_rfl) (by kernel_rfl) (by kernel_rfl) (by kernel_rfl)
  have hTO := @run_callFunc_extern Tryd.prog 141 _ ReflectliteType.typeOf Tryd.func141 (by kernel_rfl) (by kernel_rfl) (by kernel_rfl) (by kernel_rfl)
  have hAT := @run_callFunc_extern Tryd.prog 216 _ (ReflectliteType.relation "AssignableTo" ReflectliteType.assignableTo) Tryd.func216 (by kernel_rfl) (by kernel_rfl) (by kernel_rfl) (by kernel_rfl)
  have hEV := @run_callFunc_extern Tryd.prog 142 _ (ReflectliteValue.method (ReflectliteValue.valueError "reflectlite.Value.Elem" 0) ReflectliteValue.elem) Tryd.func142 (by kernel_rfl) (by kernel_rfl) (by kernel_rfl) (by kernel_rfl)
  have hSe := @run_callFunc_extern Tryd.prog 143 _ ReflectliteValue.set Tryd.func143 (by kernel_rfl) (by kernel_rfl) (by kernel_rfl) (by kernel_rfl)
  have f1 := as_typeOf1
  have f2 := as_methodAssignableTo
  have f3 := as_assignable1
  have f5 := as_valueOf2
  have f6 := as_type2
  have f7 := as_methodKind
  have f8 := as_methodElem
  have f9 := as_methodImplements
  have f10 := as_kind2
  have f11 := as_kind1
  have f12 := as_elem2
  have f13 := as_implements1
  have g1 := as_typeOfW
  have g2 := as_assignableW
  have g3 := as_noAsW
  have g4 := as_hasUnwrapW
  have g5 := as_methodUnwrapW
  have g6 := as_typeOfE
  have g7 := as_assignableE
  have g8 := as_noAsE
  have g9 := as_noUnwrapE
  have g10 := as_noUnwrapsE
  have n8 := as_isNil2 ⟨w.heap.size, 0, none⟩ t ((w.alloc (.cells #[.pointer (some t)] 91)).alloc (.cells #[hnd 91, .pointer (some ⟨w.heap.size, 0, none⟩), .int .u64 150] 125)) (by simp)
  have hlt : 0 < w.heap.size := by
    by_cases h : 0 < w.heap.size
    · exact h
    · unfold ErrT at hg; simp [World.cell?, Array.getElem?_eq_none (Nat.le_of_not_lt h)] at hg
  have hg2 : ((w.alloc (.cells #[.pointer (some t)] 91)).alloc (.cells #[hnd 91, .pointer (some ⟨w.heap.size, 0, none⟩), .int .u64 150] 125)).cell? ⟨0, 0, none⟩ = some (.iface 168 (.agg #[hnd 57])) := by
    rw [World.cell?_alloc_lt _ _ ⟨0, 0, none⟩ (by simp <;> omega), World.cell?_alloc_lt _ _ ⟨0, 0, none⟩ hlt]; exact hg
  have htl : t.block < w.heap.size := by
    rcases Nat.lt_or_ge t.block w.heap.size with h | h
    · exact h
    · simp [World.cell?, Array.getElem?_eq_none h] at ht0
  have el := as_elemV2 ⟨w.heap.size, 0, none⟩ t (((w.alloc (.cells #[.pointer (some t)] 91)).alloc (.cells #[hnd 91, .pointer (some ⟨w.heap.size, 0, none⟩), .int .u64 150] 125)).alloc (.cells #[hnd 91, .pointer (some ⟨w.heap.size, 0, none⟩), .int .u64 150] 125)) (by rw [World.cell?_alloc_lt _ _ ⟨w.heap.size, 0, none⟩ (by simp; omega)]; simp)
  go_enter Tryd.func54, Tryd.ntmps54
  go_wp2
  refine wp_loop_rounds 2 ?_
  rw [rounds_succ]
  go_wp2
  rw [rounds_succ]
  go_wp2
  go_ret
  exact ⟨rfl, rfl⟩
end Go.Proofs.YtdphhmigbbgjmaaDoor
end
