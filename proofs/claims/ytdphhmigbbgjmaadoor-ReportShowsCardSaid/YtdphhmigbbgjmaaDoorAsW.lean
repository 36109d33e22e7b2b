/- errors.As at the target *api.Fault: the walks for the law's own errors: one that holds a Fault, one of errors.New's, one that holds such. -/
import Derived.Test.YtdphhmigbbgjmaaDoorAsH
namespace Go.Proofs.YtdphhmigbbgjmaaDoor
open Go.RowKit Go.Extern.Stop Go.Stop Go.Extern
/-! Facts on the other errors: Word (no As, an Unwrap), errors.New's (neither). -/
theorem as_typeOfW (v : Value) (w : World) : (ReflectliteType.typeOf #[.iface 59 v]).run Tryd.prog w = .ok (.iface 168 (.agg #[hnd 59])) w := by kernel_rfl
theorem as_assignableW (w : World) : (ReflectliteType.relation "AssignableTo" ReflectliteType.assignableTo #[.agg #[hnd 59], .iface 168 (.agg #[hnd 55])]).run Tryd.prog w = .ok (.bool false) w := by kernel_rfl
theorem as_noAsW (v : Value) (xT : TypeId) (w : World) : (Instr.typeAssert (.iface 59 v) xT 173 true).run Tryd.prog w = .ok (.tuple #[.nilIface, .bool false]) w := run_typeAssert_lacksB Tryd.underlying173 (by kernel_rfl) (by kernel_rfl) v xT w
theorem as_hasUnwrapW (v : Value) (xT : TypeId) (w : World) : (Instr.typeAssert (.iface 59 v) xT 176 true).run Tryd.prog w = .ok (.tuple #[.iface 59 v, .bool true]) w := run_typeAssert_hasB Tryd.underlying176 (by kernel_rfl) v xT w
theorem as_methodUnwrapW (a b : Value) (w : World) : (Go.method 346 59 (.agg #[a, b]) "Unwrap").run Tryd.prog w = .ok (209, .agg #[a, b]) w := by kernel_rfl
theorem as_typeOfE (v : Value) (w : World) : (ReflectliteType.typeOf #[.iface 95 v]).run Tryd.prog w = .ok (.iface 168 (.agg #[hnd 95])) w := by kernel_rfl
theorem as_assignableE (w : World) : (ReflectliteType.relation "AssignableTo" ReflectliteType.assignableTo #[.agg #[hnd 95], .iface 168 (.agg #[hnd 55])]).run Tryd.prog w = .ok (.bool false) w := by kernel_rfl
theorem as_noAsE (v : Value) (xT : TypeId) (w : World) : (Instr.typeAssert (.iface 95 v) xT 173 true).run Tryd.prog w = .ok (.tuple #[.nilIface, .bool false]) w := run_typeAssert_lacksB Tryd.underlying173 (by kernel_rfl) (by kernel_rfl) v xT w
theorem as_noUnwrapE (v : Value) (xT : TypeId) (w : World) : (Instr.typeAssert (.iface 95 v) xT 176 true).run Tryd.prog w = .ok (.tuple #[.nilIface, .bool false]) w := run_typeAssert_lacksB Tryd.underlying176 (by kernel_rfl) (by kernel_rfl) v xT w
theorem as_noUnwrapsE (v : Value) (xT : TypeId) (w : World) : (Instr.typeAssert (.iface 95 v) xT 178 true).run Tryd.prog w = .ok (.tuple #[.nilIface, .bool false]) w := run_typeAssert_lacksB Tryd.underlying178 (by kernel_rfl) (by kernel_rfl) v xT w
set_option maxRecDepth 100000 in
set_option maxHeartbeats 4000000 in
/-- The error holds a *api.Fault. -/
theorem as_hold (s : ByteArray) (e : Option Addr) (t : Addr) (old : Value) (w : World) (hg : ErrT w) (ht0 : w.cell? t = some old) (hf0 : w.frozen? t = false) :
    Calls Tryd.prog 54 #[.iface 59 (.agg #[.string s, .iface 55 (.pointer e)]), .iface 91 (.pointer (some t))] w fun ev w' => ev = .returned (.bool true) ∧ w' = (((((w.alloc (.cells #[.pointer (some t)] 91)).alloc (.cells #[hnd 91, .pointer (some ⟨w.heap.size, 0, none⟩), .int .u64 150] 125)).alloc (.cells #[hnd 91, .pointer (some ⟨w.heap.size, 0, none⟩), .int .u64 150] 125)).alloc (.cells #[.string s, .iface 55 (.pointer e)] 59)).alloc (.cells #[.pointer e] 55)).setCell t (.pointer e) := by
  have hVO := @run_callFunc_extern Tryd.prog 99 _ (fun args => ReflectliteValue.unpack (args.getD 0 (.tuple #[]))) Tryd.func99 (by kernel_rfl) (by kernel_rfl) (by kernel_rfl) (by kernel_rfl)
  have hTy := @run_callFunc_extern Tryd.prog 100 _ (ReflectliteValue.methodAny (ReflectliteValue.valueError "reflectlite.Value.Type" 0) (fun t _ _ _ => ReflectliteType.toType t)) Tryd.func100 (by kernel_rfl) (by kernel_rfl) (by kernel_rfl) (by kernel_rfl)
  have hIN := @run_callFunc_extern Tryd.prog 101 _ (ReflectliteValue.method (ReflectliteValue.valueError "reflectlite.Value.IsNil" 0) ReflectliteValue.isNil) Tryd.func101 (by kernel_rfl) (by kernel_rfl) (by kernel_rfl) (by kernel_rfl)
  have hKi := @run_callFunc_extern Tryd.prog 204 _ (ReflectliteType.abiMethod fun t => do pure (.int .u8 (← Rtype.kind t))) Tryd.func204 (by kernel_rfl) (by kernel_rfl) (by kernel_rfl) (by kernel_rfl)
  have hEl := @run_callFunc_extern Tryd.prog 218 _ (ReflectliteType.method ReflectliteType.elem) Tryd.func218 (by kernel_rfl) (by kernel_rfl) (by kernel_rfl) (by kernel_rfl)
  have hIm := @run_callFunc_extern Tryd.prog 219 _ (ReflectliteType.relation "Implements" ReflectliteType.implements_) Tryd.func219 (by kernel_rfl) (by kernel_rfl) (by kernel_rfl) (by kernel_rfl)
  have hTO := @run_callFunc_extern Tryd.prog 141 _ ReflectliteType.typeOf Tryd.func141 (by kernel_rfl) (by kernel_rfl) (by kernel_rfl) (by kernel_rfl)
  have hAT := @run_callFunc_extern Tryd.prog 216 _ (ReflectliteType.relation "AssignableTo" ReflectliteType.assignableTo) Tryd.func216 (by kernel_rfl) (by kernel_rfl) (by kernel_rfl) (by kernel_rfl)
  have hEV := @run_callFunc_extern Tryd.prog 142 _ (ReflectliteValue.method (ReflectliteValue.valueError "reflectlite.Value.Elem" 0) ReflectliteValue.elem) Tryd.func142 (by kernel_rfl) (by kernel_rfl) (by kernel_rfl) (by kernel_rfl)
  have hSe := @run_callFunc_extern Tryd.prog 143 _ ReflectliteValue.set Tryd.func143 (by kernel_rfl) (by kernel_rfl) (by kernel_rfl) (by kernel_rfl)
  have f1 := as_typeOf1
  have f2 := as_methodAssignableTo
  have f3 := as_assignable1
  have f5 := as_valueOf2
  have f6 := as_type2
  have f7 := as_methodKind
  have f8 := as_methodElem
  have f9 := as_methodImplements
  have f10 := as_kind2
  have f11 := as_kind1
  have f12 := as_elem2
  have f13 := as_implements1
  have g1 := as_typeOfW
  have g2 := as_assignableW
  have g3 := as_noAsW
  have g4 := as_hasUnwrapW
  have g5 := as_methodUnwrapW
  have f4 := as_valueOf1 e
  have n8 := as_isNil2 ⟨w.heap.size, 0, none⟩ t ((w.alloc (.cells #[.pointer (some t)] 91)).alloc (.cells #[hnd 91, .pointer (some ⟨w.heap.size, 0, none⟩), .int .u64 150] 125)) (by simp)
  have hlt : 0 < w.heap.size := by
    by_cases h : 0 < w.heap.size
    · exact h
    · unfold ErrT at hg; simp [World.cell?, Array.getElem?_eq_none (Nat.le_of_not_lt h)] at hg
  have hg2 : ((w.alloc (.cells #[.pointer (some t)] 91)).alloc (.cells #[hnd 91, .pointer (some ⟨w.heap.size, 0, none⟩), .int .u64 150] 125)).cell? ⟨0, 0, none⟩ = some (.iface 168 (.agg #[hnd 57])) := by
    rw [World.cell?_alloc_lt _ _ ⟨0, 0, none⟩ (by simp <;> omega), World.cell?_alloc_lt _ _ ⟨0, 0, none⟩ hlt]; exact hg
  have htl : t.block < w.heap.size := by
    rcases Nat.lt_or_ge t.block w.heap.size with h | h
    · exact h
    · simp [World.cell?, Array.getElem?_eq_none h] at ht0
  have el := as_elemV2 ⟨w.heap.size, 0, none⟩ t ((((w.alloc (.cells #[.pointer (some t)] 91)).alloc (.cells #[hnd 91, .pointer (some ⟨w.heap.size, 0, none⟩), .int .u64 150] 125)).alloc (.cells #[hnd 91, .pointer (some ⟨w.heap.size, 0, none⟩), .int .u64 150] 125)).alloc (.cells #[.string s, .iface 55 (.pointer e)] 59)) (by rw [World.cell?_alloc_lt _ _ ⟨w.heap.size, 0, none⟩ (by simp; omega), World.cell?_alloc_lt _ _ ⟨w.heap.size, 0, none⟩ (by simp; omega)]; simp)
  have st := as_set1 t ⟨w.heap.size + 1 + 1 + 1 + 1, 0, none⟩ e old (((((w.alloc (.cells #[.pointer (some t)] 91)).alloc (.cells #[hnd 91, .pointer (some ⟨w.heap.size, 0, none⟩), .int .u64 150] 125)).alloc (.cells #[hnd 91, .pointer (some ⟨w.heap.size, 0, none⟩), .int .u64 150] 125)).alloc (.cells #[.string s, .iface 55 (.pointer e)] 59)).alloc (.cells #[.pointer e] 55))
    (by rw [World.cell?_alloc_at _ _ _ _ (by simp)]; rfl)
    (by rw [World.cell?_alloc_lt _ _ t (by simp; omega), World.cell?_alloc_lt _ _ t (by simp; omega), World.cell?_alloc_lt _ _ t (by simp; omega), World.cell?_alloc_lt _ _ t (by simp; omega), World.cell?_alloc_lt _ _ t htl]; exact ht0)
    (by rw [World.frozen?_alloc_old _ _ t (by simp; omega), World.frozen?_alloc_old _ _ t (by simp; omega), World.frozen?_alloc_old _ _ t (by simp; omega), World.frozen?_alloc_old _ _ t (by simp; omega), World.frozen?_alloc_old _ _ t (Nat.ne_of_lt htl)]; exact hf0)
  go_enter Tryd.func54, Tryd.ntmps54
  go_wp2
  refine wp_loop_rounds 2 ?_
  rw [rounds_succ]
  go_wp2
  rw [rounds_succ]
  go_wp2
  go_ret
  exact ⟨rfl, rfl⟩
set_option maxRecDepth 100000 in
set_option maxHeartbeats 4000000 in
/-- The error is one of errors.New's. -/
theorem as_miss (a t : Addr) (old : Value) (w : World) (hg : ErrT w) (ht0 : w.cell? t = some old)  :
    Calls Tryd.prog 54 #[.iface 95 (.pointer (some a)), .iface 91 (.pointer (some t))] w fun ev w' => ev = .returned (.bool false) ∧ w' = (((w.alloc (.cells #[.pointer (some t)] 91)).alloc (.cells #[hnd 91, .pointer (some ⟨w.heap.size, 0, none⟩), .int .u64 150] 125)).alloc (.cells #[hnd 91, .pointer (some ⟨w.heap.size, 0, none⟩), .int .u64 150] 125)) := by
  have hVO := @run_callFunc_extern Tryd.prog 99 _ (fun args => ReflectliteValue.unpack (args.getD 0 (.tuple #[]))) Tryd.func99 (by kernel_rfl) (by kernel_rfl) (by kernel_rfl) (by kernel_rfl)
  have hTy := @run_callFunc_extern Tryd.prog 100 _ (ReflectliteValue.methodAny (ReflectliteValue.valueError "reflectlite.Value.Type" 0) (fun t _ _ _ => ReflectliteType.toType t)) Tryd.func100 (by kernel_rfl) (by kernel_rfl) (by kernel_rfl) (by kernel_rfl)
  have hIN := @run_callFunc_extern Tryd.prog 101 _ (ReflectliteValue.method (ReflectliteValue.valueError "reflectlite.Value.IsNil" 0) ReflectliteValue.isNil) Tryd.func101 (by kernel_rfl) (by kernel_rfl) (by kernel_rfl) (by kernel_rfl)
  have hKi := @run_callFunc_extern Tryd.prog 204 _ (ReflectliteType.abiMethod fun t => do pure (.int .u8 (← Rtype.kind t))) Tryd.func204 (by kernel_rfl) (by kernel_rfl) (by kernel_rfl) (by kernel_rfl)
  have hEl := @run_callFunc_extern Tryd.prog 218 _ (ReflectliteType.method ReflectliteType.elem) Tryd.func218 (by kernel_rfl) (by kernel_rfl) (by kernel_rfl) (by kernel_rfl)
  have hIm := @run_callFunc_extern Tryd.prog 219 _ (ReflectliteType.relation "Implements" ReflectliteType.implements_) Tryd.func219 (by kernel_rfl) (by kernel_rfl) (by kernel_rfl) (by kernel_rfl)
  have hTO := @run_callFunc_extern Tryd.prog 141 _ ReflectliteType.typeOf Tryd.func141 (by kernel_rfl) (by kernel_rfl) (by kernel_rfl) (by kernel_rfl)
  have hAT := @run_callFunc_extern Tryd.prog 216 _ (ReflectliteType.relation "AssignableTo" ReflectliteType.assignableTo) Tryd.func216 (by kernel_rfl) (by kernel_rfl) (by kernel_rfl) (by kernel_rfl)
  have hEV := @run_callFunc_extern Tryd.prog 142 _ (ReflectliteValue.method (ReflectliteValue.valueError "reflectlite.Value.Elem" 0) ReflectliteValue.elem) Tryd.func142 (by kernel_rfl) (by kernel_rfl) (by kernel_rfl) (by kernel_rfl)
  have hSe := @run_callFunc_extern Tryd.prog 143 _ ReflectliteValue.set Tryd.func143 (by kernel_rfl) (by kernel_rfl) (by kernel_rfl) (by kernel_rfl)
  have f1 := as_typeOf1
  have f2 := as_methodAssignableTo
  have f3 := as_assignable1
  have f5 := as_valueOf2
  have f6 := as_type2
  have f7 := as_methodKind
  have f8 := as_methodElem
  have f9 := as_methodImplements
  have f10 := as_kind2
  have f11 := as_kind1
  have f12 := as_elem2
  have f13 := as_implements1
  have g1 := as_typeOfW
  have g2 := as_assignableW
  have g3 := as_noAsW
  have g4 := as_hasUnwrapW
  have g5 := as_methodUnwrapW
  have g6 := as_typeOfE
  have g7 := as_assignableE
  have g8 := as_noAsE
  have g9 := as_noUnwrapE
  have g10 := as_noUnwrapsE
  have n8 := as_isNil2 ⟨w.heap.size, 0, none⟩ t ((w.alloc (.cells #[.pointer (some t)] 91)).alloc (.cells #[hnd 91, .pointer (some ⟨w.heap.size, 0, none⟩), .int .u64 150] 125)) (by simp)
  have hlt : 0 < w.heap.size := by
    by_cases h : 0 < w.heap.size
    · exact h
    · unfold ErrT at hg; simp [World.cell?, Array.getElem?_eq_none (Nat.le_of_not_lt h)] at hg
  have hg2 : ((w.alloc (.cells #[.pointer (some t)] 91)).alloc (.cells #[hnd 91, .pointer (some ⟨w.heap.size, 0, none⟩), .int .u64 150] 125)).cell? ⟨0, 0, none⟩ = some (.iface 168 (.agg #[hnd 57])) := by
    rw [World.cell?_alloc_lt _ _ ⟨0, 0, none⟩ (by simp <;> omega), World.cell?_alloc_lt _ _ ⟨0, 0, none⟩ hlt]; exact hg
  have htl : t.block < w.heap.size := by
    rcases Nat.lt_or_ge t.block w.heap.size with h | h
    · exact h
    · simp [World.cell?, Array.getElem?_eq_none h] at ht0
  have el := as_elemV2 ⟨w.heap.size, 0, none⟩ t (((w.alloc (.cells #[.pointer (some t)] 91)).alloc (.cells #[hnd 91, .pointer (some ⟨w.heap.size, 0, none⟩), .int .u64 150] 125)).alloc (.cells #[hnd 91, .pointer (some ⟨w.heap.size, 0, none⟩), .int .u64 150] 125)) (by rw [World.cell?_alloc_lt _ _ ⟨w.heap.size, 0, none⟩ (by simp; omega)]; simp)
  go_enter Tryd.func54, Tryd.ntmps54
  go_wp2
  refine wp_loop_rounds 1 ?_
  rw [rounds_succ]
  go_wp2
  go_ret
  exact ⟨rfl, rfl⟩
set_option maxRecDepth 100000 in
set_option maxHeartbeats 4000000 in
/-- The error holds one of errors.New's. -/
theorem as_holdmiss (s : ByteArray) (a t : Addr) (old : Value) (w : World) (hg : ErrT w) (ht0 : w.cell? t = some old)  :
    Calls Tryd.prog 54 #[.iface 59 (.agg #[.string s, .iface 95 (.pointer (some a))]), .iface 91 (.pointer (some t))] w fun ev w' => ev = .returned (.bool false) ∧ w' = ((((w.alloc (.cells #[.pointer (some t)] 91)).alloc (.cells #[hnd 91, .pointer (some ⟨w.heap.size, 0, none⟩), .int .u64 150] 125)).alloc (.cells #[hnd 91, .pointer (some ⟨w.heap.size, 0, none⟩), .int .u64 150] 125)).alloc (.cells #[.string s, .iface 95 (.pointer (some a))] 59)) := by
  have hVO := @run_callFunc_extern Tryd.prog 99 _ (fun args => ReflectliteValue.unpack (args.getD 0 (.tuple #[]))) Tryd.func99 (by kernel_rfl) (by kernel_rfl) (by kernel_rfl) (by kernel_rfl)
  have hTy := @run_callFunc_extern Tryd.prog 100 _ (ReflectliteValue.methodAny (ReflectliteValue.valueError "reflectlite.Value.Type" 0) (fun t _ _ _ => ReflectliteType.toType t)) Tryd.func100 (by kernel_rfl) (by kernel_rfl) (by kernel_rfl) (by kernel_rfl)
  have hIN := @run_callFunc_extern Tryd.prog 101 _ (ReflectliteValue.method (ReflectliteValue.valueError "reflectlite.Value.IsNil" 0) ReflectliteValue.isNil) Tryd.func101 (by kernel_rfl) (by kernel_rfl) (by kernel_rfl) (by kernel_rfl)
  have hKi := @run_callFunc_extern Tryd.prog 204 _ (ReflectliteType.abiMethod fun t => do pure (.int .u8 (← Rtype.kind t))) Tryd.func204 (by kernel_rfl) (by kernel_rfl) (by kernel_rfl) (by kernel_rfl)
  have hEl := @run_callFunc_extern Tryd.prog 218 _ (ReflectliteType.method ReflectliteType.elem) Tryd.func218 (by kernel_rfl) (by kernel_rfl) (by kernel_rfl) (by kernel_rfl)
  have hIm := @run_callFunc_extern Tryd.prog 219 _ (ReflectliteType.relation "Implements" ReflectliteType.implements_) Tryd.func219 (by kernel_rfl) (by kernel_rfl) (by kernel_rfl) (by kernel_rfl)
  have hTO := @run_callFunc_extern Tryd.prog 141 _ ReflectliteType.typeOf Tryd.func141 (by kernel_rfl) (by kernel_rfl) (by kernel_rfl) (by kernel_rfl)
  have hAT := @run_callFunc_extern Tryd.prog 216 _ (ReflectliteType.relation "AssignableTo" ReflectliteType.assignableTo) Tryd.func216 (by kernel_rfl) (by kernel_rfl) (by kernel_rfl) (by kernel_rfl)
  have hEV := @run_callFunc_extern Tryd.prog 142 _ (ReflectliteValue.method (ReflectliteValue.valueError "reflectlite.Value.Elem" 0) ReflectliteValue.elem) Tryd.func142 (by kernel_rfl) (by kernel_rfl) (by kernel_rfl) (by kernel_rfl)
  have hSe := @run_callFunc_extern Tryd.prog 143 _ ReflectliteValue.set Tryd.func143 (by kernel_rfl) (by kernel_rfl) (by kernel_rfl) (by kernel_rfl)
  have f1 := as_typeOf1
  have f2 := as_methodAssignableTo
  have f3 := as_assignable1
  have f5 := as_valueOf2
  have f6 := as_type2
  have f7 := as_methodKind
  have f8 := as_methodElem
  have f9 := as_methodImplements
  have f10 := as_kind2
  have f11 := as_kind1
  have f12 := as_elem2
  have f13 := as_implements1
  have g1 := as_typeOfW
  have g2 := as_assignableW
  have g3 := as_noAsW
  have g4 := as_hasUnwrapW
  have g5 := as_methodUnwrapW
  have g6 := as_typeOfE
  have g7 := as_assignableE
  have g8 := as_noAsE
  have g9 := as_noUnwrapE
  have g10 := as_noUnwrapsE
  have n8 := as_isNil2 ⟨w.heap.size, 0, none⟩ t ((w.alloc (.cells #[.pointer (some t)] 91)).alloc (.cells #[hnd 91, .pointer (some ⟨w.heap.size, 0, none⟩), .int .u64 150] 125)) (by simp)
  have hlt : 0 < w.heap.size := by
    by_cases h : 0 < w.heap.size
    · exact h
    · unfold ErrT at hg; simp [World.cell?, Array.getElem?_eq_none (Nat.le_of_not_lt h)] at hg
  have hg2 : ((w.alloc (.cells #[.pointer (some t)] 91)).alloc (.cells #[hnd 91, .pointer (some ⟨w.heap.size, 0, none⟩), .int .u64 150] 125)).cell? ⟨0, 0, none⟩ = some (.iface 168 (.agg #[hnd 57])) := by
    rw [World.cell?_alloc_lt _ _ ⟨0, 0, none⟩ (by simp <;> omega), World.cell?_alloc_lt _ _ ⟨0, 0, none⟩ hlt]; exact hg
  have htl : t.block < w.heap.size := by
    rcases Nat.lt_or_ge t.block w.heap.size with h | h
    · exact h
    · simp [World.cell?, Array.getElem?_eq_none h] at ht0
  have el := as_elemV2 ⟨w.heap.size, 0, none⟩ t (((w.alloc (.cells #[.pointer (some t)] 91)).alloc (.cells #[hnd 91, .pointer (some ⟨w.heap.size, 0, none⟩), .int .u64 150] 125)).alloc (.cells #[hnd 91, .pointer (some ⟨w.heap.size, 0, none⟩), .int .u64 150] 125)) (by rw [World.cell?_alloc_lt _ _ ⟨w.heap.size, 0, none⟩ (by simp; omega)]; simp)
  go_enter Tryd.func54, Tryd.ntmps54
  go_wp2
  refine wp_loop_rounds 2 ?_
  rw [rounds_succ]
  go_wp2
  rw [rounds_succ]
  go_wp2
  go_ret
  exact ⟨rfl, rfl⟩
end Go.Proofs.YtdphhmigbbgjmaaDoor
