/- errors.As at the target *api.Fault: the walks. The error is such a Fault (nil or not), or holds one, or none. -/
import Derived.Test.YtdphhmigbbgjmaaDoorAs
namespace Go.Proofs.YtdphhmigbbgjmaaDoor
open Go.RowKit Go.Extern.Stop Go.Stop Go.Extern
set_option maxHeartbeats 4000000 in
/-- The error is a *api.Fault, nil or not. -/
theorem as_hit (e : Option Addr) (t : Addr) (old : Value) (w : World) (hg : ErrT w) (ht0 : w.cell? t = some old) (hf0 : w.frozen? t = false) :
    Calls Tryd.prog 54 #[.iface 55 (.pointer e), .iface 91 (.pointer (some t))] w fun ev w' => ev = .returned (.bool true) ∧ w' = ((((w.alloc (.cells #[.pointer (some t)] 91)).alloc (.cells #[hnd 91, .pointer (some ⟨w.heap.size, 0, none⟩), .int .u64 150] 125)).alloc (.cells #[hnd 91, .pointer (some ⟨w.heap.size, 0, none⟩), .int .u64 150] 125)).alloc (.cells #[.pointer e] 55)).setCell t (.pointer e) := by
  have hVO := @run_callFunc_extern Tryd.prog 99 _ (fun args => ReflectliteValue.unpack (args.getD 0 (.tuple #[]))) Tryd.func99 (by kernel_rfl) (by kernel_rfl) (by kernel_rfl) (by kernel_rfl)
  have hTy := @run_callFunc_extern Tryd.prog 100 _ (ReflectliteValue.methodAny (ReflectliteValue.valueError "reflectlite.Value.Type" 0) (fun t _ _ _ => ReflectliteType.toType t)) Tryd.func100 (by kernel_rfl) (by kernel_rfl) (by kernel_rfl) (by kernel_rfl)
  have hIN := @run_callFunc_extern Tryd.prog 101 _ (ReflectliteValue.method (ReflectliteValue.valueError "reflectlite.Value.IsNil" 0) ReflectliteValue.isNil) Tryd.func101 (by kernel_rfl) (by kernel_rfl) (by kernel_rfl) (by kernel_rfl)
  have hKi := @run_callFunc_extern Tryd.prog 204 _ (ReflectliteType.abiMethod fun t => do pure (.int .u8 (← Rtype.kind t))) Tryd.func204 (by kernel_rfl) (by kernel_rfl) (by kernel_rfl) (by kernel_rfl)
  have hEl := @run_callFunc_extern Tryd.prog 218 _ (ReflectliteType.method ReflectliteType.elem) Tryd.func218 (by kernel_rfl) (by kernel_rfl) (by kernel_rfl) (by kernel_rfl)
  have hIm := @run_callFunc_extern Tryd.prog 219 _ (ReflectliteType.relation "Implements" ReflectliteType.implements_) Tryd.func219 (by kernel_rfl) (by kernel_rfl) (by kernel_rfl) (by kernel_rfl)
  have hTO := @run_callFunc_extern Tryd.prog 141 _ ReflectliteType.typeOf Tryd.func141 (by kernel_rfl) (by kernel_rfl) (by kernel_rfl) (by kernel_rfl)
  have hAT := @run_callFunc_extern Tryd.prog 216 _ (ReflectliteType.relation "AssignableTo" ReflectliteType.assignableTo) Tryd.func216 (by kernel_rfl) (by kernel_rfl) (by kernel_rfl) (by kernel_rfl)
  have hEV := @run_callFunc_extern Tryd.prog 142 _ (ReflectliteValue.method (ReflectliteValue.valueError "reflectlite.Value.Elem" 0) ReflectliteValue.elem) Tryd.func142 (by kernel_rfl) (by kernel_rfl) (by kernel_rfl) (by kernel_rfl)
  have hSe := @run_callFunc_extern Tryd.prog 143 _ ReflectliteValue.set Tryd.func143 (by kernel_rfl) (by kernel_rfl) (by kernel_rfl) (by kernel_rfl)
  have f1 := as_typeOf1
  have f2 := as_methodAssignableTo
  have f3 := as_assignable1
  have f4 := as_valueOf1 e
  have f5 := as_valueOf2
  have f6 := as_type2
  have f7 := as_methodKind
  have f8 := as_methodElem
  have f9 := as_methodImplements
  have f10 := as_kind2
  have f11 := as_kind1
  have f12 := as_elem2
  have f13 := as_implements1
  have n8 := as_isNil2 ⟨w.heap.size, 0, none⟩ t ((w.alloc (.cells #[.pointer (some t)] 91)).alloc (.cells #[hnd 91, .pointer (some ⟨w.heap.size, 0, none⟩), .int .u64 150] 125)) (by simp)
  have hlt : 0 < w.heap.size := by
    by_cases h : 0 < w.heap.size
    · exact h
    · unfold ErrT at hg; simp [World.cell?, Array.getElem?_eq_none (Nat.le_of_not_lt h)] at hg
  have hg2 : ((w.alloc (.cells #[.pointer (some t)] 91)).alloc (.cells #[hnd 91, .pointer (some ⟨w.heap.size, 0, none⟩), .int .u64 150] 125)).cell? ⟨0, 0, none⟩ = some (.iface 168 (.agg #[hnd 57])) := by
    rw [World.cell?_alloc_lt _ _ ⟨0, 0, none⟩ (by simp <;> omega), World.cell?_alloc_lt _ _ ⟨0, 0, none⟩ hlt]; exact hg
  have htl : t.block < w.heap.size := by
    rcases Nat.lt_or_ge t.block w.heap.size with h | h
    · exact h
    · simp [World.cell?, Array.getElem?_eq_none h] at ht0
  have el := as_elemV2 ⟨w.heap.size, 0, none⟩ t (((w.alloc (.cells #[.pointer (some t)] 91)).alloc (.cells #[hnd 91, .pointer (some ⟨w.heap.size, 0, none⟩), .int .u64 150] 125)).alloc (.cells #[hnd 91, .pointer (some ⟨w.heap.size, 0, none⟩), .int .u64 150] 125)) (by rw [World.cell?_alloc_lt _ _ ⟨w.heap.size, 0, none⟩ (by simp; omega)]; simp)
  have st := as_set1 t ⟨w.heap.size + 1 + 1 + 1, 0, none⟩ e old ((((w.alloc (.cells #[.pointer (some t)] 91)).alloc (.cells #[hnd 91, .pointer (some ⟨w.heap.size, 0, none⟩), .int .u64 150] 125)).alloc (.cells #[hnd 91, .pointer (some ⟨w.heap.size, 0, none⟩), .int .u64 150] 125)).alloc (.cells #[.pointer e] 55))
    (by rw [World.cell?_alloc_at _ _ _ _ (by simp)]; rfl)
    (by rw [World.cell?_alloc_lt _ _ t (by simp; omega), World.cell?_alloc_lt _ _ t (by simp; omega), World.cell?_alloc_lt _ _ t (by simp; omega), World.cell?_alloc_lt _ _ t htl]; exact ht0)
    (by rw [World.frozen?_alloc_old _ _ t (by simp; omega), World.frozen?_alloc_old _ _ t (by simp; omega), World.frozen?_alloc_old _ _ t (by simp; omega), World.frozen?_alloc_old _ _ t (Nat.ne_of_lt htl)]; exact hf0)
  go_enter Tryd.func54, Tryd.ntmps54
  go_wp2
  refine wp_loop_rounds 1 ?_
  rw [rounds_succ]
  go_wp2
  go_ret
  exact ⟨rfl, rfl⟩
end Go.Proofs.YtdphhmigbbgjmaaDoor
