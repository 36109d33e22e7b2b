/-
  No cell of these rows narrows 'for every input' (looked for: loops, veiled, ifaces, maps, wideKeys, modest, calm, conditions, laid).
  DERIVED. THE GIVEN ROWS OF THIS SEAT. 5 by the template 'for every input the law returns true; each argument reads behind the call as it read before'; 0 by the template 'total and deterministic' (their statements: YtgjlpkocieffeaaTotals.lean).
  GIVEN WITH THE SEED: the statements are not yours to turn. If you find one false, say at which input.
  Laid BY PROGRAM, IN A SANDBOX (cutbox-rows.mjs): the forced cells as the released guide's own fill.sh prints them over the translation aea0de550afd1b7b… (all of the seat's roots in one cut). By AI agents, Wed Nov 11 2026. No macro, syntax, notation, axiom, sorry.
-/
import Derived.Test.YtgjlpkocieffeaaChecked
import GoSem.Claim
import GoSem.ClaimJoined
import GoSem.ClaimMapViews
import Derived.JoinedTies
import Derived.KernelRfl
namespace Go.Proofs.Ytgjlpkocieffeaa
/- THE CELL 'sum', in the pinned program and in every row, IS THE sha256 OF THE DUMP (.gsa) THAT YtgjlpkocieffeaaProg.lean LOADS. Nothing in Lean hashes anything: it is a label: what it is worth is what the hold of that sum in a sandbox is worth. -/
noncomputable def Try.pinned : Pinned := { name := "ytgjlpkocieffeaa", sum := "aea0de550afd1b7bd9da50c694a62f3f4fde4a03527c708a071799a530992173", checked := Try.checked }
namespace Rows
def none {H : Type} : Left H := { results := [], args := [] }

/-- 'colophonlaw10.ScanNames': WHATEVER THE INPUT: true; the input reads as it did. -/
def scanNamesSpec : ChangeSpec := { name := "scanNames", fn := fun _ => fun
  | [] => { results := [.lit (.bool true)], args := [] }
  | _ => none }
def scanNamesRow : OpenClaim := { program := "ytgjlpkocieffeaa", sum := "aea0de550afd1b7bd9da50c694a62f3f4fde4a03527c708a071799a530992173", func := "colophon/colophonlaw10.ScanNames", spec := "scanNames", apart := false }
def ScanNamesSaid : Prop := scanNamesRow.holds Try.pinned (OpenSpec.ofChange scanNamesSpec)

/-- ITS FALSE NEIGHBOUR: 'it returns false'. Refute it at one input. -/
def scanNamesWrong : ChangeSpec := { name := "scanNames", fn := fun _ => fun
  | [] => { results := [.lit (.bool false)], args := [] }
  | _ => none }
def ScanNamesWrongFalsely : Prop := scanNamesRow.holds Try.pinned (OpenSpec.ofChange scanNamesWrong)

/-- 'colophonlaw11.LexNames': WHATEVER THE INPUT: true; the input reads as it did. -/
def lexNamesSpec : ChangeSpec := { name := "lexNames", fn := fun _ => fun
  | [] => { results := [.lit (.bool true)], args := [] }
  | _ => none }
def lexNamesRow : OpenClaim := { program := "ytgjlpkocieffeaa", sum := "aea0de550afd1b7bd9da50c694a62f3f4fde4a03527c708a071799a530992173", func := "colophon/colophonlaw11.LexNames", spec := "lexNames", apart := false }
def LexNamesSaid : Prop := lexNamesRow.holds Try.pinned (OpenSpec.ofChange lexNamesSpec)

/-- ITS FALSE NEIGHBOUR: 'it returns false'. Refute it at one input. -/
def lexNamesWrong : ChangeSpec := { name := "lexNames", fn := fun _ => fun
  | [] => { results := [.lit (.bool false)], args := [] }
  | _ => none }
def LexNamesWrongFalsely : Prop := lexNamesRow.holds Try.pinned (OpenSpec.ofChange lexNamesWrong)

/-- 'colophonlaw03.PlaceExact': WHATEVER THE INPUT: true; the input reads as it did. -/
def placeExactSpec : ChangeSpec := { name := "placeExact", fn := fun _ => fun
  | [d1, d2, d3, d4] => { results := [.lit (.bool true)], args := [d1, d2, d3, d4] }
  | _ => none }
def placeExactRow : OpenClaim := { program := "ytgjlpkocieffeaa", sum := "aea0de550afd1b7bd9da50c694a62f3f4fde4a03527c708a071799a530992173", func := "colophon/colophonlaw03.PlaceExact", spec := "placeExact", inPlace := ["internal/bytealg.CountString", "internal/bytealg.IndexByteString", "internal/bytealg.IndexString"], unfollowed := true, recurses := true, named := ["internal/bytealg.MaxLen"], apart := false }
def PlaceExactSaid : Prop := placeExactRow.holds Try.pinned (OpenSpec.ofChange placeExactSpec)

/-- ITS FALSE NEIGHBOUR: 'it returns false'. Refute it at one input. -/
def placeExactWrong : ChangeSpec := { name := "placeExact", fn := fun _ => fun
  | [d1, d2, d3, d4] => { results := [.lit (.bool false)], args := [d1, d2, d3, d4] }
  | _ => none }
def PlaceExactWrongFalsely : Prop := placeExactRow.holds Try.pinned (OpenSpec.ofChange placeExactWrong)

/-- 'colophonlaw03.PlaceLines': WHATEVER THE INPUT: true; the input reads as it did. -/
def placeLinesSpec : ChangeSpec := { name := "placeLines", fn := fun _ => fun
  | [d1, d2] => { results := [.lit (.bool true)], args := [d1, d2] }
  | _ => none }
def placeLinesRow : OpenClaim := { program := "ytgjlpkocieffeaa", sum := "aea0de550afd1b7bd9da50c694a62f3f4fde4a03527c708a071799a530992173", func := "colophon/colophonlaw03.PlaceLines", spec := "placeLines", inPlace := ["internal/bytealg.IndexByteString", "internal/bytealg.IndexString", "internal/bytealg.CountString"], unfollowed := true, recurses := true, named := ["internal/bytealg.MaxLen"], apart := false }
def PlaceLinesSaid : Prop := placeLinesRow.holds Try.pinned (OpenSpec.ofChange placeLinesSpec)

/-- ITS FALSE NEIGHBOUR: 'it returns false'. Refute it at one input. -/
def placeLinesWrong : ChangeSpec := { name := "placeLines", fn := fun _ => fun
  | [d1, d2] => { results := [.lit (.bool false)], args := [d1, d2] }
  | _ => none }
def PlaceLinesWrongFalsely : Prop := placeLinesRow.holds Try.pinned (OpenSpec.ofChange placeLinesWrong)

/-- 'colophonlaw03.PlaceRises': WHATEVER THE INPUT: true; the input reads as it did. -/
def placeRisesSpec : ChangeSpec := { name := "placeRises", fn := fun _ => fun
  | [d] => { results := [.lit (.bool true)], args := [d] }
  | _ => none }
def placeRisesRow : OpenClaim := { program := "ytgjlpkocieffeaa", sum := "aea0de550afd1b7bd9da50c694a62f3f4fde4a03527c708a071799a530992173", func := "colophon/colophonlaw03.PlaceRises", spec := "placeRises", inPlace := ["internal/bytealg.CountString", "internal/bytealg.IndexByteString", "internal/bytealg.IndexString"], unfollowed := true, recurses := true, named := ["internal/bytealg.MaxLen"], apart := false }
def PlaceRisesSaid : Prop := placeRisesRow.holds Try.pinned (OpenSpec.ofChange placeRisesSpec)

/-- ITS FALSE NEIGHBOUR: 'it returns false'. Refute it at one input. -/
def placeRisesWrong : ChangeSpec := { name := "placeRises", fn := fun _ => fun
  | [d] => { results := [.lit (.bool false)], args := [d] }
  | _ => none }
def PlaceRisesWrongFalsely : Prop := placeRisesRow.holds Try.pinned (OpenSpec.ofChange placeRisesWrong)

/- THE SECOND FORM. 'bulk': how many values and letters a reading holds, each counted each time it is reached (what is shared counts as often as it is met; a slice's spare places count too). A statement '..UptoSaid' is the law's where the arguments, and the package variables that the reading takes, are together of bulk at most 1048576: NARROWER than '..Said'. Prove '..Said' where nothing that the law and all that it calls make is longer than what came in: it says more and counts as full. Else prove '..UptoSaid'. A law counts once. -/
mutual
def uptoBulk {H : Type} : DataW H → Nat
  | .lit (.string bytes) => bytes.length + 1
  | .lit _ => 1
  | .nil => 1
  | .ptr d => uptoBulk d + 1
  | .slice elems spare => uptoBulkAll elems + uptoBulkAll spare + 1
  | .agg parts => uptoBulkAll parts + 1
  | .iface _ d => uptoBulk d + 1
  | .map entries => uptoBulkEntries entries + 1
  | .held _ => 1
def uptoBulkAll {H : Type} : List (DataW H) → Nat
  | [] => 0
  | d :: r => uptoBulk d + uptoBulkAll r
def uptoBulkEntries {H : Type} : List (Lit × DataW H) → Nat
  | [] => 0
  | x :: r => uptoBulkEntry x + uptoBulkEntries r
def uptoBulkEntry {H : Type} : Lit × DataW H → Nat
  | (.string bytes, d) => bytes.length + uptoBulk d + 1
  | (_, d) => uptoBulk d + 1
 end
def uptoSmall : (H : Type) → List (DataW H) → Bool := fun _ ds => decide (uptoBulkAll ds ≤ 1048576)
def OpenSpec.upto (s : _root_.Go.ChangeSpec) : _root_.Go.OpenSpec := { _root_.Go.OpenSpec.ofChange s with cond := some uptoSmall }

/-- 'colophonlaw10.ScanNames', WHERE WHAT IT READS IS OF BULK AT MOST 1048576: true; the input reads as it did. -/
def scanNamesUptoRow : OpenClaim := { program := "ytgjlpkocieffeaa", sum := "aea0de550afd1b7bd9da50c694a62f3f4fde4a03527c708a071799a530992173", func := "colophon/colophonlaw10.ScanNames", spec := "scanNames", apart := false, narrowed := true }
def ScanNamesUptoSaid : Prop := scanNamesUptoRow.holds Try.pinned (OpenSpec.upto scanNamesSpec)

/-- 'colophonlaw11.LexNames', WHERE WHAT IT READS IS OF BULK AT MOST 1048576: true; the input reads as it did. -/
def lexNamesUptoRow : OpenClaim := { program := "ytgjlpkocieffeaa", sum := "aea0de550afd1b7bd9da50c694a62f3f4fde4a03527c708a071799a530992173", func := "colophon/colophonlaw11.LexNames", spec := "lexNames", apart := false, narrowed := true }
def LexNamesUptoSaid : Prop := lexNamesUptoRow.holds Try.pinned (OpenSpec.upto lexNamesSpec)

/-- 'colophonlaw03.PlaceExact', WHERE WHAT IT READS IS OF BULK AT MOST 1048576: true; the input reads as it did. -/
def placeExactUptoRow : OpenClaim := { program := "ytgjlpkocieffeaa", sum := "aea0de550afd1b7bd9da50c694a62f3f4fde4a03527c708a071799a530992173", func := "colophon/colophonlaw03.PlaceExact", spec := "placeExact", inPlace := ["internal/bytealg.CountString", "internal/bytealg.IndexByteString", "internal/bytealg.IndexString"], unfollowed := true, recurses := true, named := ["internal/bytealg.MaxLen"], apart := false, narrowed := true }
def PlaceExactUptoSaid : Prop := placeExactUptoRow.holds Try.pinned (OpenSpec.upto placeExactSpec)

/-- 'colophonlaw03.PlaceLines', WHERE WHAT IT READS IS OF BULK AT MOST 1048576: true; the input reads as it did. -/
def placeLinesUptoRow : OpenClaim := { program := "ytgjlpkocieffeaa", sum := "aea0de550afd1b7bd9da50c694a62f3f4fde4a03527c708a071799a530992173", func := "colophon/colophonlaw03.PlaceLines", spec := "placeLines", inPlace := ["internal/bytealg.IndexByteString", "internal/bytealg.IndexString", "internal/bytealg.CountString"], unfollowed := true, recurses := true, named := ["internal/bytealg.MaxLen"], apart := false, narrowed := true }
def PlaceLinesUptoSaid : Prop := placeLinesUptoRow.holds Try.pinned (OpenSpec.upto placeLinesSpec)

/-- 'colophonlaw03.PlaceRises', WHERE WHAT IT READS IS OF BULK AT MOST 1048576: true; the input reads as it did. -/
def placeRisesUptoRow : OpenClaim := { program := "ytgjlpkocieffeaa", sum := "aea0de550afd1b7bd9da50c694a62f3f4fde4a03527c708a071799a530992173", func := "colophon/colophonlaw03.PlaceRises", spec := "placeRises", inPlace := ["internal/bytealg.CountString", "internal/bytealg.IndexByteString", "internal/bytealg.IndexString"], unfollowed := true, recurses := true, named := ["internal/bytealg.MaxLen"], apart := false, narrowed := true }
def PlaceRisesUptoSaid : Prop := placeRisesUptoRow.holds Try.pinned (OpenSpec.upto placeRisesSpec)

end Rows
end Go.Proofs.Ytgjlpkocieffeaa
