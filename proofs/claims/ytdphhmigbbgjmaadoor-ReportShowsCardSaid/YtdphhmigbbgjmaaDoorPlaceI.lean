/- The iterator of package place that tells a text's lines, for every loop body. Condition: shorter than 2^62 bytes. -/
import Derived.Test.YtdphhmigbbgjmaaDoorCut1
import Derived.RangeFuncCalls
import Derived.RangeFuncLeaves
import Derived.RangeFuncRecord
import Derived.RangeFuncSeq
import Derived.Shelf.Abstract
import Derived.OwnWalkIn
import Derived.TacticsInMore
import Derived.LoopNIn
import Derived.LoopIn
namespace Go.Proofs.YtdphhmigbbgjmaaDoor
open Go.RowKit Go.Lib Go.Shelf
attribute [local go_sem] Oper.semAt_some

theorem linesOf_cut (s : ByteArray) : (∃ i : Nat, Lib.indexByte s.data.toList 10 = i ∧ i < s.size ∧ linesOf s.data.toList = (s.data.toList.take i) :: linesOf (s.data.toList.drop (i + 1))) ∨ (Lib.indexByte s.data.toList 10 = -1 ∧ linesOf s.data.toList = [s.data.toList]) := by
  by_cases e : Lib.indexByte s.data.toList 10 = -1
  · right
    refine ⟨e, linesOf_end _ fun b hb h => ?_⟩
    obtain ⟨k, hk, hkb⟩ := List.mem_iff_getElem.1 hb
    exact indexByte_none e k (by rw [List.getElem?_eq_getElem hk, hkb, h])
  · left
    have h := indexByte_ge s.data.toList 10
    obtain ⟨i, hi⟩ := Int.eq_ofNat_of_zero_le (show 0 ≤ Lib.indexByte s.data.toList 10 by omega)
    obtain ⟨h1, h2⟩ := indexByte_some hi
    have hl := (List.getElem?_eq_some_iff.1 h1).1
    refine ⟨i, hi, by rw [size_len] at hl; exact hl, ?_⟩
    have e2 : s.data.toList = s.data.toList.take i ++ 10 :: s.data.toList.drop (i + 1) := by
      conv => lhs; rw [← List.take_append_drop i s.data.toList]
      congr 1
      rw [List.drop_eq_getElem_cons hl, (List.getElem?_eq_some_iff.1 h1).2]
    conv => lhs; rw [e2]
    refine linesOf_run _ _ fun b hb h => ?_
    obtain ⟨k, hk, hkb⟩ := List.mem_iff_getElem.1 hb
    rw [List.length_take] at hk
    rw [List.getElem_take] at hkb
    exact h2 k (by omega) (by rw [List.getElem?_eq_getElem (by omega), hkb, h])
theorem linesOf_len : ∀ l : Bs, (linesOf l).length ≤ l.length + 1
  | [] => by simp [linesOf]
  | b :: t => by
    have ih := linesOf_len t
    unfold linesOf
    split
    · simp; omega
    · split
      · simp
      · rename_i x r h; rw [h] at ih; simp at ih ⊢; omega
/-- How long the text in a cell is. -/
def strLen (W : World) (B : Nat) : Nat := match W.cell? ⟨B, 0, none⟩ with | some (.string s) => s.size | _ => 0
theorem strLen_eq {W : World} {B : Nat} {s : ByteArray} (h : W.cell? ⟨B, 0, none⟩ = some (.string s)) : strLen W B = s.size := by unfold strLen; rw [h]

set_option maxRecDepth 100000 in
set_option maxHeartbeats 1000000 in
theorem lines_iter (n : Nat) (hn : 1 ≤ n) (l B : Nat) (s : ByteArray) (hs : s.size < 4611686018427387904)
    (J : List Bs → ByteArray → World → Prop) (Jx : List Bs → World → Prop)
    (hcell : ∀ pre cur W, J pre cur W → W.cell? ⟨B, 0, none⟩ = some (.string cur) ∧ W.frozen? ⟨B, 0, none⟩ = false)
    (hset : ∀ pre cur cur' W, J pre cur W → J pre cur' (W.setCell ⟨B, 0, none⟩ (.string cur')))
    (hdrew : ∀ pre cur W m, J pre cur W → J pre cur (W.drewN m))
    (hY : ∀ pre cur (x : ByteArray) W, J pre cur W → (pre ++ [x.data.toList]) <+: linesOf s.data.toList → YieldAt Fence.wide (n - 1) Tryd.prog l #[.string x] W fun e W' =>
      (e = .returned (.bool true) ∧ J (pre ++ [x.data.toList]) cur W') ∨ (e = .returned (.bool false) ∧ Jx (pre ++ [x.data.toList]) W'))
    (W : World) (h0 : J [] s W) :
    CallsIn Fence.wide n Tryd.prog 144 #[.func (.yield l) #[] #[], .pointer (some ⟨B, 0, none⟩)] W fun e W' => (∃ v, e = .returned v) ∧
      ((∃ cur, J (linesOf s.data.toList) cur W') ∨ (∃ pre, pre <+: linesOf s.data.toList ∧ Jx pre W')) := by
  refine callsIn_of_wp Tryd.func144 rfl trivial ?_ rfl
  simp only [Tryd.ntmps144, List.size_toArray, List.length_cons, List.length_nil, Nat.reduceAdd, Nat.reduceSub, Array.replicate_succ, Array.replicate_zero, List.push_toArray, List.append_toArray, List.nil_append, List.cons_append]
  gi_wp2
  gi_loopw [3] (fun _ wr => ∃ (pre : List Bs) (cur : ByteArray), J pre cur wr ∧ Hid (linesOf s.data.toList = pre ++ linesOf cur.data.toList) ∧ cur.size ≤ s.size) (fun _ wr => strLen wr B)
  case atStart => exact ⟨[], s, h0, Lib.hid rfl, Nat.le_refl _⟩
  case round =>
    obtain ⟨pre, cur, hJ, hl, hcs⟩ := hrel
    have hc := hcell _ _ _ hJ
    obtain ⟨hc1, hc2⟩ := hc
    have hcut' : CallsIn Fence.wide (n - 1) Tryd.prog 145 #[.string cur, .string ⟨#[10]⟩] wr fun e w' => e = .returned (cut1V cur 10) ∧ ∃ m, w' = wr.drewN m := callsIn_wide.2 (strings_Cut1 cur 10 wr (by omega))
    rcases linesOf_cut cur with ⟨i, hi, his, hls⟩ | ⟨hi, hls⟩
    · have hv : cut1V cur 10 = .tuple #[.string (cur.extract 0 i), .string (cur.extract (i + 1) cur.size), .bool true] := by
        unfold cut1V; rw [hi, if_pos (by omega)]; rfl
      rw [hv] at hcut'
      have hcut' := Lib.hid hcut'
      clear hv
      have hJd := fun m => hdrew _ _ _ m hJ
      have hx : (cur.extract 0 i).data.toList = cur.data.toList.take i := by rw [extract_list]; simp
      have hall : Hid (linesOf s.data.toList = (pre ++ [(cur.extract 0 i).data.toList]) ++ linesOf (cur.extract (i + 1) cur.size).data.toList) := by
        rw [hl.out, hls, hx, extract_list]
        simp only [List.append_assoc, List.cons_append, List.nil_append]
        have : (cur.data.toList.drop (i + 1)).take (cur.size - (i + 1)) = cur.data.toList.drop (i + 1) := List.take_of_length_le (by rw [List.length_drop, size_len]; exact Nat.le_refl _)
        rw [this]; exact Lib.hid rfl
      have hyy := fun m => hY pre cur (cur.extract 0 i) (wr.drewN m) (hJd m) ⟨_, hall.out.symm⟩
      clear hls hi hx
      have hall := Lib.hid hall
      gi_wp2_with (refine ⟨trivial, ?_⟩; gi_at_call 145; refine hcut'.out.mono ?_; rintro e w' ⟨rfl, m, rfl⟩; obtain ⟨fn, tmps, assign, body, hy, hR⟩ := hyy m)
      refine hR.mono ?_
      rintro e W3 (⟨rfl, hJ3⟩ | ⟨rfl, hJx3⟩)
      · obtain ⟨d1, d2⟩ := hcell _ _ _ hJ3
        have hJ4 := hset _ _ (cur.extract (i + 1) cur.size) _ hJ3
        have d4 := strLen_eq (hcell _ _ _ hJ4).1
        have d5 := strLen_eq hc1
        have d4 := Lib.hid d4
        have d5 := Lib.hid d5
        have hsz : (cur.extract (i + 1) cur.size).size < cur.size := by simp; omega
        gi_wp2
        go_roundw
        case rel => exact ⟨pre ++ [(cur.extract 0 i).data.toList], cur.extract (i + 1) cur.size, hJ4, hall.out, by omega⟩
        case measure => rw [d4.out, d5.out]; exact hsz
      · gi_wp2
        refine bodyPost_ret (results_none rfl _ _ _) rfl ?_
        exact ⟨⟨_, rfl⟩, .inr ⟨pre ++ [(cur.extract 0 i).data.toList], ⟨_, hall.out.out.symm⟩, hJx3⟩⟩
    · have hv : cut1V cur 10 = .tuple #[.string cur, .string ⟨#[]⟩, .bool false] := by
        unfold cut1V; rw [hi, if_neg (by omega)]
      rw [hv] at hcut'
      have hcut' := Lib.hid hcut'
      clear hv
      have hJd := fun m => hdrew _ _ _ m hJ
      have hall : Hid (linesOf s.data.toList = pre ++ [cur.data.toList]) := by rw [hl.out, hls]; exact Lib.hid rfl
      have hyy := fun m => hY pre cur cur (wr.drewN m) (hJd m) ⟨[], by rw [hall.out]; simp⟩
      clear hls hi
      gi_wp2_with (refine ⟨trivial, ?_⟩; gi_at_call 145; refine hcut'.out.mono ?_; rintro e w' ⟨rfl, m, rfl⟩; obtain ⟨fn, tmps, assign, body, hy, hR⟩ := hyy m)
      refine hR.mono ?_
      rintro e W3 (⟨rfl, hJ3⟩ | ⟨rfl, hJx3⟩)
      · gi_wp2
        refine bodyPost_ret (results_none rfl _ _ _) rfl ?_
        exact ⟨⟨_, rfl⟩, .inl ⟨cur, by rw [hall.out]; exact hJ3⟩⟩
      · gi_wp2
        refine bodyPost_ret (results_none rfl _ _ _) rfl ?_
        exact ⟨⟨_, rfl⟩, .inr ⟨pre ++ [cur.data.toList], ⟨[], by rw [hall.out]; simp⟩, hJx3⟩⟩

end Go.Proofs.YtdphhmigbbgjmaaDoor
