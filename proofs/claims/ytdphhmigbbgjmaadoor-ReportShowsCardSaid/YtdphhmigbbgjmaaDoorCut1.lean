/- strings.Cut at a separator of one byte. Condition: shorter than 2^62 bytes. -/
import Derived.Test.YtdphhmigbbgjmaaDoorM1
import Derived.Test.YtdphhmigbbgjmaaDoorShelf
import Derived.Deep.QuietTactic
import Derived.BigQuiet
namespace Go.Proofs.YtdphhmigbbgjmaaDoor
open Go.RowKit Go.Lib
attribute [local go_sem] byteAt_get wrap64_byteAt
theorem indexByte_lt (l : List UInt8) (c : UInt8) : Lib.indexByte l c < l.length := by
  have h := indexByte_ge l c
  by_cases e : Lib.indexByte l c = -1
  · rw [e]; omega
  · obtain ⟨o, ho⟩ := Int.eq_ofNat_of_zero_le (show 0 ≤ Lib.indexByte l c by omega)
    have := (indexByte_some ho).1
    rw [ho]
    have := (List.getElem?_eq_some_iff.1 this).1
    omega
/-- What strings.Cut tells at a separator of one byte. -/
def cut1V (s : ByteArray) (c : UInt8) : Value :=
  if 0 ≤ Lib.indexByte s.data.toList c then .tuple #[.string (s.extract 0 (Lib.indexByte s.data.toList c).toNat), .string (s.extract ((Lib.indexByte s.data.toList c).toNat + 1) s.size), .bool true]
  else .tuple #[.string s, .string ⟨#[]⟩, .bool false]
theorem sl_Cut1 (s : ByteArray) (c : UInt8) (w : World) (hs : s.size < 4611686018427387904) :
    Calls Tryd.prog 171 #[.string s, .string ⟨#[c]⟩] w fun e w' => e = .returned (cut1V s c) ∧ ∃ n, w' = w.drewN n := by
  obtain ⟨z, hz⟩ : ∃ z, z = Lib.indexByte s.data.toList c := ⟨_, rfl⟩
  have hI : ∀ W, Calls Tryd.prog 122 #[.string s, .string ⟨#[c]⟩] W fun e w' => e = .returned (.int .i64 z) ∧ W = w' := fun W => by
    rw [hz]; exact (Tryd.stringslite_Index_one s c W).mono fun e w' ⟨h1, h2⟩ => ⟨h1, h2.symm⟩
  have hI := Lib.hid hI
  have hlt : z < s.size := by rw [hz, ← size_len]; exact indexByte_lt _ _
  have fin : Hid (cut1V s c = if 0 ≤ z then .tuple #[.string (s.extract 0 z.toNat), .string (s.extract (z.toNat + 1) s.size), .bool true] else .tuple #[.string s, .string ⟨#[]⟩, .bool false]) := by rw [hz]; exact Lib.hid rfl
  clear hz
  by_cases h0 : 0 ≤ z
  · obtain ⟨i, rfl⟩ := Int.eq_ofNat_of_zero_le h0
    have fin2 : Hid (cut1V s c = .tuple #[.string (s.extract 0 i), .string (s.extract (i + 1) s.size), .bool true]) := by rw [fin.out, if_pos h0]; exact Lib.hid rfl
    clear fin
    have e1 : IntKind.i64.wrap ((i : Int) + 1) = i + 1 := IntWalk.i64_in _ (by omega)
    have b1 : (0 : Int) ≤ (i : Int) + 1 := by omega
    have b2 : ((i : Int) + 1) ≤ s.size := by omega
    have b3 : (i : Int) ≤ s.size := by omega
    have b4 : ((i : Int) + 1).toNat = i + 1 := by omega
    go_enter Tryd.func171, Tryd.ntmps171
    go_wp2_with (go_at_call 122; refine (hI.out _).mono ?_; rintro e w' ⟨rfl, rfl⟩)
    go_quiet (fail)
    go_wp2
    go_ret3
    exact ⟨by rw [fin2.out]; rfl, _, rfl⟩
  · have fin2 : Hid (cut1V s c = .tuple #[.string s, .string ⟨#[]⟩, .bool false]) := by rw [fin.out, if_neg h0]; exact Lib.hid rfl
    clear fin
    go_enter Tryd.func171, Tryd.ntmps171
    go_wp2_with (go_at_call 122; refine (hI.out _).mono ?_; rintro e w' ⟨rfl, rfl⟩)
    go_ret3
    exact ⟨by rw [fin2.out]; rfl, 0, rfl⟩
theorem strings_Cut1 (s : ByteArray) (c : UInt8) (w : World) (hs : s.size < 4611686018427387904) :
    Calls Tryd.prog 145 #[.string s, .string ⟨#[c]⟩] w fun e w' => e = .returned (cut1V s c) ∧ ∃ n, w' = w.drewN n := by
  obtain ⟨a, b, d, hv⟩ : ∃ a b d, cut1V s c = .tuple #[a, b, d] := by unfold cut1V; split <;> exact ⟨_, _, _, rfl⟩
  have H := sl_Cut1 s c w hs
  rw [hv] at H ⊢
  have H := Lib.hid H
  clear hv
  go_enter Tryd.func145, Tryd.ntmps145
  go_wp2_with (go_at_call 171; refine H.out.mono ?_; rintro e w' ⟨rfl, m, rfl⟩)
  go_ret3
  exact ⟨rfl, _, rfl⟩

end Go.Proofs.YtdphhmigbbgjmaaDoor
