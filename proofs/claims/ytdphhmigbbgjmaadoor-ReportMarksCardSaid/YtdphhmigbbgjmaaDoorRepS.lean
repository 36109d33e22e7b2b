/- report.Show: what it tells of a Fault, of an error that holds one, of another error. Conditions: the name and the source have at most 2^40 bytes; the tables lie as laid. -/
import Derived.Test.YtdphhmigbbgjmaaDoorRepX
import Derived.Test.YtdphhmigbbgjmaaDoorR1
import Derived.Test.YtdphhmigbbgjmaaDoorR3
import Derived.Test.YtdphhmigbbgjmaaDoorR5
import Derived.Test.YtdphhmigbbgjmaaDoorM2
namespace Go.Proofs.YtdphhmigbbgjmaaDoor
open Go.RowKit Go.Lib
set_option linter.unusedVariables false
set_option linter.unusedSimpArgs false
def blB (n : Nat) : ByteArray := ⟨(Lib.repeatL [32] n).toArray⟩
/-- What is told of a Fault: its head; its line and a mark, where the source has such a place. -/
def showB (n s : ByteArray) (c l col : Int) : ByteArray :=
  if (lineT s.data.toList l).2 = true then
    if col < 1 ∨ (cnt (lineT s.data.toList l).1.data.toList : Int) + 1 < col then hedB n c l col
    else hedB n c l col ++ ⟨#[32, 32]⟩ ++ ⟨(shN (cnt (lineT s.data.toList l).1.data.toList) (lineT s.data.toList l).1.data.toList).toArray⟩ ++ ⟨#[10, 32, 32]⟩
      ++ blB (wid (ahN (col - 1).toNat (lineT s.data.toList l).1.data.toList)).toNat ++ ⟨#[94, 10]⟩
  else hedB n c l col
theorem linesOf_mem_len : ∀ (l : Bs) (x : Bs), x ∈ linesOf l → x.length ≤ l.length
  | [], x, h => by simp [linesOf] at h; subst h; simp
  | b :: t, x, h => by
    rw [linesOf] at h
    split at h
    · rcases List.mem_cons.1 h with rfl | h
      · simp
      · have := linesOf_mem_len t x h; simp; omega
    · cases hl : linesOf t with
      | nil => exact absurd hl (linesOf_ne t)
      | cons y r =>
        rw [hl] at h
        rcases List.mem_cons.1 h with rfl | h
        · have := linesOf_mem_len t y (by rw [hl]; simp); simp; omega
        · have := linesOf_mem_len t x (by rw [hl]; simp [h]); simp; omega
theorem lineT_size (s : ByteArray) (n : Int) : (lineT s.data.toList n).1.size ≤ s.size := by
  unfold lineT
  cases h : getLine s.data.toList n with
  | none => exact Nat.zero_le _
  | some x =>
    show x.toArray.size ≤ _
    unfold getLine at h
    split at h
    · cases h
    · have hm := List.mem_of_getElem? h
      have := linesOf_mem_len s.data.toList x hm
      rw [size_len] at this
      simpa using this
theorem m_Error1 (p : Option Addr) (w : World) : (Go.method 346 55 (.pointer p) "Error").run Tryd.prog w = .ok (55, .pointer p) w := by kernel_rfl
theorem m_ErrorW (x y : Value) (w : World) : (Go.method 346 59 (.agg #[x, y]) "Error").run Tryd.prog w = .ok (208, .agg #[x, y]) w := by kernel_rfl
theorem m_ErrorE (p : Option Addr) (w : World) : (Go.method 346 95 (.pointer p) "Error").run Tryd.prog w = .ok (210, .pointer p) w := by kernel_rfl
theorem as_hit' (e : Option Addr) (q : Nat) (w : World) (hg : ErrT w) (hq : Blk w q #[.pointer none] 55) :
    Calls Tryd.prog 54 #[.iface 55 (.pointer e), .iface 91 (.pointer (some ⟨q, 0, none⟩))] w fun ev w' => ev = .returned (.bool true) ∧ Blk w' q #[.pointer e] 55 ∧ Below q w w' := by
  have hlt := hq.lt
  refine (as_hit e ⟨q, 0, none⟩ (.pointer none) w hg (by simpa using hq.cell 0) (hq.frozen 0)).mono ?_
  rintro ev w' ⟨rfl, rfl⟩
  refine ⟨rfl, by have := ((((hq.alloc (.cells #[.pointer (some ⟨q, 0, none⟩)] 91)).alloc (.cells #[hnd 91, .pointer (some ⟨w.heap.size, 0, none⟩), .int .u64 150] 125)).alloc (.cells #[hnd 91, .pointer (some ⟨w.heap.size, 0, none⟩), .int .u64 150] 125)).alloc (.cells #[.pointer e] 55)).set 0 (.pointer e); simpa using this, ?_⟩
  exact (((((Below.refl q w).alloc (by omega) _).alloc (by simp; omega) _).alloc (by simp; omega) _).alloc (by simp; omega) _).setCell (p := ⟨q, 0, none⟩) (Nat.le_refl _) _
theorem as_hold' (x : ByteArray) (e : Option Addr) (q : Nat) (w : World) (hg : ErrT w) (hq : Blk w q #[.pointer none] 55) :
    Calls Tryd.prog 54 #[.iface 59 (.agg #[.string x, .iface 55 (.pointer e)]), .iface 91 (.pointer (some ⟨q, 0, none⟩))] w fun ev w' => ev = .returned (.bool true) ∧ Blk w' q #[.pointer e] 55 ∧ Below q w w' := by
  have hlt := hq.lt
  refine (as_hold x e ⟨q, 0, none⟩ (.pointer none) w hg (by simpa using hq.cell 0) (hq.frozen 0)).mono ?_
  rintro ev w' ⟨rfl, rfl⟩
  refine ⟨rfl, by have := (((((hq.alloc (.cells #[.pointer (some ⟨q, 0, none⟩)] 91)).alloc (.cells #[hnd 91, .pointer (some ⟨w.heap.size, 0, none⟩), .int .u64 150] 125)).alloc (.cells #[hnd 91, .pointer (some ⟨w.heap.size, 0, none⟩), .int .u64 150] 125)).alloc (.cells #[.string x, .iface 55 (.pointer e)] 59)).alloc (.cells #[.pointer e] 55)).set 0 (.pointer e); simpa using this, ?_⟩
  exact ((((((Below.refl q w).alloc (by omega) _).alloc (by simp; omega) _).alloc (by simp; omega) _).alloc (by simp; omega) _).alloc (by simp; omega) _).setCell (p := ⟨q, 0, none⟩) (Nat.le_refl _) _
theorem as_miss' (a : Addr) (q : Nat) (w : World) (hg : ErrT w) (hq : Blk w q #[.pointer none] 55) :
    Calls Tryd.prog 54 #[.iface 95 (.pointer (some a)), .iface 91 (.pointer (some ⟨q, 0, none⟩))] w fun ev w' => ev = .returned (.bool false) ∧ Blk w' q #[.pointer none] 55 ∧ Below w.heap.size w w' := by
  refine (as_miss a ⟨q, 0, none⟩ (.pointer none) w hg (by simpa using hq.cell 0)).mono ?_
  rintro ev w' ⟨rfl, rfl⟩
  exact ⟨rfl, ((hq.alloc _).alloc _).alloc _, (((Below.refl _ w).alloc (Nat.le_refl _) _).alloc (by simp) _).alloc (by simp; omega) _⟩
theorem as_holdmiss' (x : ByteArray) (a : Addr) (q : Nat) (w : World) (hg : ErrT w) (hq : Blk w q #[.pointer none] 55) :
    Calls Tryd.prog 54 #[.iface 59 (.agg #[.string x, .iface 95 (.pointer (some a))]), .iface 91 (.pointer (some ⟨q, 0, none⟩))] w fun ev w' => ev = .returned (.bool false) ∧ Blk w' q #[.pointer none] 55 ∧ Below w.heap.size w w' := by
  refine (as_holdmiss x a ⟨q, 0, none⟩ (.pointer none) w hg (by simpa using hq.cell 0)).mono ?_
  rintro ev w' ⟨rfl, rfl⟩
  exact ⟨rfl, (((hq.alloc _).alloc _).alloc _).alloc _, ((((Below.refl _ w).alloc (Nat.le_refl _) _).alloc (by simp) _).alloc (by simp; omega) _).alloc (by simp; omega) _⟩
end Go.Proofs.YtdphhmigbbgjmaaDoor
