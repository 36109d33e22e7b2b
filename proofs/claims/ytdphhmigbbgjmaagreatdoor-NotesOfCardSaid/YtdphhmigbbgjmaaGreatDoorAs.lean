/- errors.As at the target *api.Fault, by its contracts: the error is such a Fault (nil or not), holds one, or none. Turned from the kit's worked example of errors.As. Condition: the package variable of the type error lies as laid. -/
import Derived.Test.YtdphhmigbbgjmaaGreatDoorM1
import Derived.WalkKit
import Derived.LaidEql
import Derived.Stop.Asserts
import Derived.RowKitTokens
namespace Go.Proofs.YtdphhmigbbgjmaaGreatDoor
open Go.RowKit Go.Extern.Stop Go.Stop Go.Extern
/-- The handle of a type, as the model has it. -/
abbrev hnd (t : Nat) : Value := .pointer (some ⟨6, t, none⟩)
/-- The package variable that holds the handle of the type error. -/
def ErrT (w : World) : Prop := w.cell? ⟨0, 0, none⟩ = some (.iface 99 (.agg #[hnd 32]))
theorem ErrT.below {w w' : World} (h : ErrT w) (hb : Below w.heap.size w w') : ErrT w' := (hb.cell (p := ⟨0, 0, none⟩) (by
  unfold ErrT at h
  by_cases hlt : 0 < w.heap.size
  · exact hlt
  · simp [World.cell?, Array.getElem?_eq_none (Nat.le_of_not_lt hlt)] at h)).trans h
theorem as_valueOf2 (t : Addr) (w : World) : (ReflectliteValue.unpack (.iface 57 (.pointer (some t)))).run Tryz.prog w
    = .ok (.agg #[hnd 57, .pointer (some ⟨w.heap.size, 0, none⟩), .int .u64 150]) (w.alloc (.cells #[.pointer (some t)] 57)) := by kernel_rfl
theorem as_type2 (a : Addr) (w : World) : (ReflectliteValue.methodAny (ReflectliteValue.valueError "reflectlite.Value.Type" 0) (fun t _ _ _ => ReflectliteType.toType t) #[.agg #[hnd 57, .pointer (some a), .int .u64 150]]).run Tryz.prog w
    = .ok (.iface 99 (.agg #[hnd 57])) w := by kernel_rfl
theorem as_methodKind (h : Value) (w : World) : (Go.method 290 99 (.agg #[h]) "Kind").run Tryz.prog w = .ok (122, h) w := by kernel_rfl
theorem as_kind2 (w : World) : ((ReflectliteType.abiMethod fun t => (fun a : Nat => Value.int IntKind.u8 (a : Int)) <$> Rtype.kind t) #[hnd 57]).run Tryz.prog w = .ok (.int .u8 22) w := by kernel_rfl
theorem as_kind1 (w : World) : ((ReflectliteType.abiMethod fun t => (fun a : Nat => Value.int IntKind.u8 (a : Int)) <$> Rtype.kind t) #[hnd 55]).run Tryz.prog w = .ok (.int .u8 22) w := by kernel_rfl
theorem as_rlm (z : Sem Value) (f : TypeId → Addr → Nat → Nat → Sem Value) (v : Value) :
    ReflectliteValue.method z f #[v] = (do match ← ReflectliteValue.parts v with | none => z | some (t, a, fl) => f t a fl (fl % 32)) := rfl
theorem as_parts2 (a : Addr) (w : World) : (ReflectliteValue.parts (.agg #[hnd 57, .pointer (some a), .int .u64 150])).run Tryz.prog w = .ok (some (57, a, 150)) w := by kernel_rfl
theorem as_isNil2 (a p : Addr) (W : World) (ha : W.cell? a = some (.pointer (some p))) :
    (ReflectliteValue.method (ReflectliteValue.valueError "reflectlite.Value.IsNil" 0) ReflectliteValue.isNil #[.agg #[hnd 57, .pointer (some a), .int .u64 150]]).run Tryz.prog W = .ok (.bool false) W := by
  rw [as_rlm]
  simp only [Sem.run_bind, as_parts2, Result.andThen]
  simp [ReflectliteValue.isNil, loadVar, isAgg, underlying, Tryz.underlying57, ha, Result.andThen]
theorem as_methodElem (h : Value) (w : World) : (Go.method 290 99 (.agg #[h]) "Elem").run Tryz.prog w = .ok (135, .agg #[h]) w := by kernel_rfl
theorem as_methodImplements (h : Value) (w : World) : (Go.method 290 99 (.agg #[h]) "Implements").run Tryz.prog w = .ok (136, .agg #[h]) w := by kernel_rfl
theorem as_methodAssignableTo (h : Value) (w : World) : (Go.method 290 99 (.agg #[h]) "AssignableTo").run Tryz.prog w = .ok (133, .agg #[h]) w := by kernel_rfl
theorem as_elem2 (w : World) : (ReflectliteType.method ReflectliteType.elem #[.agg #[hnd 57]]).run Tryz.prog w = .ok (.iface 99 (.agg #[hnd 55])) w := by kernel_rfl
theorem as_implements1 (w : World) : (ReflectliteType.relation "Implements" ReflectliteType.implements_ #[.agg #[hnd 55], .iface 99 (.agg #[hnd 32])]).run Tryz.prog w = .ok (.bool true) w := by kernel_rfl
theorem as_typeOf1 (v : Value) (w : World) : (ReflectliteType.typeOf #[.iface 55 v]).run Tryz.prog w = .ok (.iface 99 (.agg #[hnd 55])) w := by kernel_rfl
theorem as_assignable1 (w : World) : (ReflectliteType.relation "AssignableTo" ReflectliteType.assignableTo #[.agg #[hnd 55], .iface 99 (.agg #[hnd 55])]).run Tryz.prog w = .ok (.bool true) w := by kernel_rfl
theorem as_valueOf1 (e : Option Addr) (w : World) : (ReflectliteValue.unpack (.iface 55 (.pointer e))).run Tryz.prog w
    = .ok (.agg #[hnd 55, .pointer (some ⟨w.heap.size, 0, none⟩), .int .u64 150]) (w.alloc (.cells #[.pointer e] 55)) := by kernel_rfl
theorem as_elemOf2 (w : World) : (Rtype.elem? 57).run Tryz.prog w = .ok (some 55) w := by kernel_rfl
theorem as_mk1 (p : Addr) (w : World) : (ReflectliteValue.mk 55 p ReflectliteValue.flagAddr).run Tryz.prog w = .ok (.agg #[hnd 55, .pointer (some p), .int .u64 406]) w := by kernel_rfl
theorem as_elemV2 (a p : Addr) (W : World) (ha : W.cell? a = some (.pointer (some p))) :
    (ReflectliteValue.method (ReflectliteValue.valueError "reflectlite.Value.Elem" 0) ReflectliteValue.elem #[.agg #[hnd 57, .pointer (some a), .int .u64 150]]).run Tryz.prog W
      = .ok (.agg #[hnd 55, .pointer (some p), .int .u64 406]) W := by
  rw [as_rlm]
  simp only [Sem.run_bind, as_parts2, Result.andThen]
  simp [ReflectliteValue.elem, loadVar, isAgg, underlying, Tryz.underlying57, ha, Result.andThen, as_elemOf2, as_mk1]
theorem as_rls (v x : Value) : ReflectliteValue.set #[v, x] = (do
    let (some (dst, a, fl), some (src, b, _)) := (← ReflectliteValue.parts v, ← ReflectliteValue.parts x)
      | unsupported (.noEntry "extern/(internal/reflectlite.Value).Set.zeroValue")
    if fl / ReflectliteValue.flagAddr % 2 == 0 then unsupported (.noEntry "extern/(internal/reflectlite.Value).Set.unaddressable")
    let val ← loadVar src b
    if ← Rtype.directlyAssignable dst src then storeVar dst a val
    else if ← Rtype.implements dst src then
      if (← Rtype.kind src) == 20 then
        match val with
        | .nilIface => unsupported (.noEntry "extern/reflectlite: a nil value of one interface type handed on as a value of another")
        | _ => storeVar dst a val
      else storeVar dst a (.iface src val)
    else panicString ("reflectlite.Set: value of type " ++ (← Rtype.spelt src) ++ " is not assignable to type " ++ (← Rtype.spelt dst))
    pure (.tuple #[])) := rfl
theorem as_parts1a (a : Addr) (w : World) : (ReflectliteValue.parts (.agg #[hnd 55, .pointer (some a), .int .u64 406])).run Tryz.prog w = .ok (some (55, a, 406)) w := by kernel_rfl
theorem as_parts1 (a : Addr) (w : World) : (ReflectliteValue.parts (.agg #[hnd 55, .pointer (some a), .int .u64 150])).run Tryz.prog w = .ok (some (55, a, 150)) w := by kernel_rfl
theorem as_direct1 (w : World) : (Rtype.directlyAssignable 55 55).run Tryz.prog w = .ok true w := by kernel_rfl
theorem as_set1 (ta b : Addr) (e : Option Addr) (old : Value) (W : World) (hb : W.cell? b = some (.pointer e)) (ht : W.cell? ta = some old) (hf : W.frozen? ta = false) :
    (ReflectliteValue.set #[.agg #[hnd 55, .pointer (some ta), .int .u64 406], .agg #[hnd 55, .pointer (some b), .int .u64 150]]).run Tryz.prog W
      = .ok (.tuple #[]) (W.setCell ta (.pointer e)) := by
  rw [as_rls]
  simp only [Sem.run_bind, as_parts1a, as_parts1, Result.andThen]
  simp [ReflectliteValue.flagAddr, loadVar, isAgg, underlying, Tryz.underlying55, hb, Result.andThen, as_direct1, storeVar, Value.cells, storeCells, Addr.add]
  rw [run_store Tryz.prog W ta _ _ (by rfl)]
  simp [ht, hf]
end Go.Proofs.YtdphhmigbbgjmaaGreatDoor
