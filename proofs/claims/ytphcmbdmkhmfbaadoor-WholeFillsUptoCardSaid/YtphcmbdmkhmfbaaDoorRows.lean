/-
  NARROWER THAN 'FOR EVERY INPUT', by the rows' own cells (each row's printed sentence says how): SinkNames: laid · SinkPlays: laid · SinkTakes: laid · SinkBlanks: laid · WholeNames: laid · WholePrints: laid · WholeLines: laid · WholeFills: laid · WholeIdle: laid.
  DERIVED. THE GIVEN ROWS OF THIS SEAT. 9 by the template 'for every input the law returns true; each argument reads behind the call as it read before'; 0 by the template 'total and deterministic' (their statements: YtphcmbdmkhmfbaaDoorTotals.lean).
  GIVEN WITH THE SEED: the statements are not yours to turn. If you find one false, say at which input.
  Laid BY PROGRAM, IN A SANDBOX (cutbox-rows.mjs): the forced cells as the released guide's own fill.sh prints them over the translation 8bb6cf155bd2ca68… (all of the seat's roots in one cut). By AI agents, Wed Nov 11 2026. No macro, syntax, notation, axiom, sorry.
-/
import Derived.Test.YtphcmbdmkhmfbaaDoorChecked
import GoSem.Claim
import GoSem.ClaimJoined
import GoSem.ClaimMapViews
import Derived.JoinedTies
import Derived.KernelRfl
namespace Go.Proofs.YtphcmbdmkhmfbaaDoor
/- THE CELL 'sum', in the pinned program and in every row, IS THE sha256 OF THE DUMP (.gsa) THAT YtphcmbdmkhmfbaaDoorProg.lean LOADS. Nothing in Lean hashes anything: it is a label: what it is worth is what the hold of that sum in a sandbox is worth. -/
noncomputable def Tryd.pinned : Pinned := { name := "ytphcmbdmkhmfbaadoor", sum := "8bb6cf155bd2ca6894b6e1cf43754df3202e4010d24f8b4b53c7c02d8c4de58e", checked := Tryd.checked }
namespace Rows
def none {H : Type} : Left H := { results := [], args := [] }

/- WHAT THE LISTED PACKAGE-LEVEL VARIABLES READ AS WHEN THE CALL BEGINS. Each datum BY PROGRAM (the guide's laid-datum.mjs) off the statement by which the dump's own 'gosem.cut.vars' lays the variable. In a bare row this is a premise. The card (YtphcmbdmkhmfbaaDoorCards.lean) ties it to the program's text. -/
def laid_colophon_width_double {H : Type} : DataW H := .agg [.agg [.lit (.int .i64 4352), .lit (.int .i64 4447)], .agg [.lit (.int .i64 11904), .lit (.int .i64 12350)], .agg [.lit (.int .i64 12353), .lit (.int .i64 42191)], .agg [.lit (.int .i64 44032), .lit (.int .i64 55203)], .agg [.lit (.int .i64 63744), .lit (.int .i64 64255)], .agg [.lit (.int .i64 65072), .lit (.int .i64 65135)], .agg [.lit (.int .i64 65280), .lit (.int .i64 65376)], .agg [.lit (.int .i64 65504), .lit (.int .i64 65510)], .agg [.lit (.int .i64 127744), .lit (.int .i64 128591)], .agg [.lit (.int .i64 129280), .lit (.int .i64 129535)], .agg [.lit (.int .i64 131072), .lit (.int .i64 262141)]]
def laid_colophon_width_none {H : Type} : DataW H := .agg [.agg [.lit (.int .i64 768), .lit (.int .i64 879)], .agg [.lit (.int .i64 8203), .lit (.int .i64 8207)], .agg [.lit (.int .i64 8400), .lit (.int .i64 8447)], .agg [.lit (.int .i64 65024), .lit (.int .i64 65039)], .agg [.lit (.int .i64 65056), .lit (.int .i64 65071)]]

/-- 'colophonlaw06.SinkNames': WHATEVER THE INPUT: true; the input reads as it did. -/
def sinkNamesSpec : ChangeSpec := { name := "sinkNames", fn := fun _ => fun
  | [] => { results := [.lit (.bool true)], args := [] }
  | _ => none }
def sinkNamesRow : OpenClaim := { program := "ytphcmbdmkhmfbaadoor", sum := "8bb6cf155bd2ca6894b6e1cf43754df3202e4010d24f8b4b53c7c02d8c4de58e", func := "colophon/colophonlaw06.SinkNames", spec := "sinkNames", inPlace := ["internal/abi.NoEscape", "internal/bytealg.MakeNoZero"], unfollowed := true, recurses := true, named := ["colophon/width.double", "colophon/width.none"], apart := false, laid := [("colophon/width.double", laid_colophon_width_double), ("colophon/width.none", laid_colophon_width_none)] }
def SinkNamesSaid : Prop := sinkNamesRow.holds Tryd.pinned (OpenSpec.ofChange sinkNamesSpec)

/-- ITS FALSE NEIGHBOUR: 'it returns false'. Refute it at one input. -/
def sinkNamesWrong : ChangeSpec := { name := "sinkNames", fn := fun _ => fun
  | [] => { results := [.lit (.bool false)], args := [] }
  | _ => none }
def SinkNamesWrongFalsely : Prop := sinkNamesRow.holds Tryd.pinned (OpenSpec.ofChange sinkNamesWrong)

/-- 'colophonlaw06.SinkPlays': WHATEVER THE INPUT: true; the input reads as it did. -/
def sinkPlaysSpec : ChangeSpec := { name := "sinkPlays", fn := fun _ => fun
  | [d] => { results := [.lit (.bool true)], args := [d] }
  | _ => none }
def sinkPlaysRow : OpenClaim := { program := "ytphcmbdmkhmfbaadoor", sum := "8bb6cf155bd2ca6894b6e1cf43754df3202e4010d24f8b4b53c7c02d8c4de58e", func := "colophon/colophonlaw06.SinkPlays", spec := "sinkPlays", inPlace := ["internal/abi.NoEscape", "internal/bytealg.MakeNoZero"], unfollowed := true, recurses := true, named := ["colophon/width.double", "colophon/width.none"], apart := false, laid := [("colophon/width.double", laid_colophon_width_double), ("colophon/width.none", laid_colophon_width_none)] }
def SinkPlaysSaid : Prop := sinkPlaysRow.holds Tryd.pinned (OpenSpec.ofChange sinkPlaysSpec)

/-- ITS FALSE NEIGHBOUR: 'it returns false'. Refute it at one input. -/
def sinkPlaysWrong : ChangeSpec := { name := "sinkPlays", fn := fun _ => fun
  | [d] => { results := [.lit (.bool false)], args := [d] }
  | _ => none }
def SinkPlaysWrongFalsely : Prop := sinkPlaysRow.holds Tryd.pinned (OpenSpec.ofChange sinkPlaysWrong)

/-- 'colophonlaw06.SinkTakes': WHATEVER THE INPUT: true; the input reads as it did. -/
def sinkTakesSpec : ChangeSpec := { name := "sinkTakes", fn := fun _ => fun
  | [d1, d2] => { results := [.lit (.bool true)], args := [d1, d2] }
  | _ => none }
def sinkTakesRow : OpenClaim := { program := "ytphcmbdmkhmfbaadoor", sum := "8bb6cf155bd2ca6894b6e1cf43754df3202e4010d24f8b4b53c7c02d8c4de58e", func := "colophon/colophonlaw06.SinkTakes", spec := "sinkTakes", inPlace := ["internal/abi.NoEscape", "internal/bytealg.MakeNoZero"], unfollowed := true, recurses := true, named := ["colophon/width.double", "colophon/width.none"], apart := false, laid := [("colophon/width.double", laid_colophon_width_double), ("colophon/width.none", laid_colophon_width_none)] }
def SinkTakesSaid : Prop := sinkTakesRow.holds Tryd.pinned (OpenSpec.ofChange sinkTakesSpec)

/-- ITS FALSE NEIGHBOUR: 'it returns false'. Refute it at one input. -/
def sinkTakesWrong : ChangeSpec := { name := "sinkTakes", fn := fun _ => fun
  | [d1, d2] => { results := [.lit (.bool false)], args := [d1, d2] }
  | _ => none }
def SinkTakesWrongFalsely : Prop := sinkTakesRow.holds Tryd.pinned (OpenSpec.ofChange sinkTakesWrong)

/-- 'colophonlaw06.SinkBlanks': WHATEVER THE INPUT: true; the input reads as it did. -/
def sinkBlanksSpec : ChangeSpec := { name := "sinkBlanks", fn := fun _ => fun
  | [d1, d2] => { results := [.lit (.bool true)], args := [d1, d2] }
  | _ => none }
def sinkBlanksRow : OpenClaim := { program := "ytphcmbdmkhmfbaadoor", sum := "8bb6cf155bd2ca6894b6e1cf43754df3202e4010d24f8b4b53c7c02d8c4de58e", func := "colophon/colophonlaw06.SinkBlanks", spec := "sinkBlanks", inPlace := ["internal/abi.NoEscape", "internal/bytealg.MakeNoZero"], unfollowed := true, recurses := true, named := ["colophon/width.double", "colophon/width.none"], apart := false, laid := [("colophon/width.double", laid_colophon_width_double), ("colophon/width.none", laid_colophon_width_none)] }
def SinkBlanksSaid : Prop := sinkBlanksRow.holds Tryd.pinned (OpenSpec.ofChange sinkBlanksSpec)

/-- ITS FALSE NEIGHBOUR: 'it returns false'. Refute it at one input. -/
def sinkBlanksWrong : ChangeSpec := { name := "sinkBlanks", fn := fun _ => fun
  | [d1, d2] => { results := [.lit (.bool false)], args := [d1, d2] }
  | _ => none }
def SinkBlanksWrongFalsely : Prop := sinkBlanksRow.holds Tryd.pinned (OpenSpec.ofChange sinkBlanksWrong)

/-- 'colophonlaw08.WholeNames': WHATEVER THE INPUT: true; the input reads as it did. -/
def wholeNamesSpec : ChangeSpec := { name := "wholeNames", fn := fun _ => fun
  | [] => { results := [.lit (.bool true)], args := [] }
  | _ => none }
def wholeNamesRow : OpenClaim := { program := "ytphcmbdmkhmfbaadoor", sum := "8bb6cf155bd2ca6894b6e1cf43754df3202e4010d24f8b4b53c7c02d8c4de58e", func := "colophon/colophonlaw08.WholeNames", spec := "wholeNames", inPlace := ["internal/bytealg.IndexByteString", "internal/bytealg.IndexString", "internal/abi.NoEscape", "internal/bytealg.MakeNoZero"], unfollowed := true, recurses := true, named := ["internal/bytealg.MaxLen", "colophon/width.double", "colophon/width.none"], apart := false, laid := [("colophon/width.double", laid_colophon_width_double), ("colophon/width.none", laid_colophon_width_none)] }
def WholeNamesSaid : Prop := wholeNamesRow.holds Tryd.pinned (OpenSpec.ofChange wholeNamesSpec)

/-- ITS FALSE NEIGHBOUR: 'it returns false'. Refute it at one input. -/
def wholeNamesWrong : ChangeSpec := { name := "wholeNames", fn := fun _ => fun
  | [] => { results := [.lit (.bool false)], args := [] }
  | _ => none }
def WholeNamesWrongFalsely : Prop := wholeNamesRow.holds Tryd.pinned (OpenSpec.ofChange wholeNamesWrong)

/-- 'colophonlaw08.WholePrints': WHATEVER THE INPUT: true; the input reads as it did. -/
def wholePrintsSpec : ChangeSpec := { name := "wholePrints", fn := fun _ => fun
  | [d1, d2] => { results := [.lit (.bool true)], args := [d1, d2] }
  | _ => none }
def wholePrintsRow : OpenClaim := { program := "ytphcmbdmkhmfbaadoor", sum := "8bb6cf155bd2ca6894b6e1cf43754df3202e4010d24f8b4b53c7c02d8c4de58e", func := "colophon/colophonlaw08.WholePrints", spec := "wholePrints", inPlace := ["internal/bytealg.IndexByteString", "internal/bytealg.IndexString", "internal/abi.NoEscape", "internal/bytealg.MakeNoZero"], unfollowed := true, recurses := true, named := ["internal/bytealg.MaxLen", "colophon/width.double", "colophon/width.none"], apart := false, laid := [("colophon/width.double", laid_colophon_width_double), ("colophon/width.none", laid_colophon_width_none)] }
def WholePrintsSaid : Prop := wholePrintsRow.holds Tryd.pinned (OpenSpec.ofChange wholePrintsSpec)

/-- ITS FALSE NEIGHBOUR: 'it returns false'. Refute it at one input. -/
def wholePrintsWrong : ChangeSpec := { name := "wholePrints", fn := fun _ => fun
  | [d1, d2] => { results := [.lit (.bool false)], args := [d1, d2] }
  | _ => none }
def WholePrintsWrongFalsely : Prop := wholePrintsRow.holds Tryd.pinned (OpenSpec.ofChange wholePrintsWrong)

/-- 'colophonlaw08.WholeLines': WHATEVER THE INPUT: true; the input reads as it did. -/
def wholeLinesSpec : ChangeSpec := { name := "wholeLines", fn := fun _ => fun
  | [d1, d2] => { results := [.lit (.bool true)], args := [d1, d2] }
  | _ => none }
def wholeLinesRow : OpenClaim := { program := "ytphcmbdmkhmfbaadoor", sum := "8bb6cf155bd2ca6894b6e1cf43754df3202e4010d24f8b4b53c7c02d8c4de58e", func := "colophon/colophonlaw08.WholeLines", spec := "wholeLines", inPlace := ["internal/bytealg.IndexByteString", "internal/bytealg.IndexString", "internal/abi.NoEscape", "internal/bytealg.MakeNoZero"], unfollowed := true, recurses := true, named := ["internal/bytealg.MaxLen", "colophon/width.double", "colophon/width.none"], apart := false, laid := [("colophon/width.double", laid_colophon_width_double), ("colophon/width.none", laid_colophon_width_none)] }
def WholeLinesSaid : Prop := wholeLinesRow.holds Tryd.pinned (OpenSpec.ofChange wholeLinesSpec)

/-- ITS FALSE NEIGHBOUR: 'it returns false'. Refute it at one input. -/
def wholeLinesWrong : ChangeSpec := { name := "wholeLines", fn := fun _ => fun
  | [d1, d2] => { results := [.lit (.bool false)], args := [d1, d2] }
  | _ => none }
def WholeLinesWrongFalsely : Prop := wholeLinesRow.holds Tryd.pinned (OpenSpec.ofChange wholeLinesWrong)

/-- 'colophonlaw08.WholeFills': WHATEVER THE INPUT: true; the input reads as it did. -/
def wholeFillsSpec : ChangeSpec := { name := "wholeFills", fn := fun _ => fun
  | [d1, d2, d3] => { results := [.lit (.bool true)], args := [d1, d2, d3] }
  | _ => none }
def wholeFillsRow : OpenClaim := { program := "ytphcmbdmkhmfbaadoor", sum := "8bb6cf155bd2ca6894b6e1cf43754df3202e4010d24f8b4b53c7c02d8c4de58e", func := "colophon/colophonlaw08.WholeFills", spec := "wholeFills", inPlace := ["internal/bytealg.IndexByteString", "internal/bytealg.IndexString", "internal/abi.NoEscape", "internal/bytealg.MakeNoZero"], unfollowed := true, recurses := true, named := ["internal/bytealg.MaxLen", "colophon/width.double", "colophon/width.none"], apart := false, laid := [("colophon/width.double", laid_colophon_width_double), ("colophon/width.none", laid_colophon_width_none)] }
def WholeFillsSaid : Prop := wholeFillsRow.holds Tryd.pinned (OpenSpec.ofChange wholeFillsSpec)

/-- ITS FALSE NEIGHBOUR: 'it returns false'. Refute it at one input. -/
def wholeFillsWrong : ChangeSpec := { name := "wholeFills", fn := fun _ => fun
  | [d1, d2, d3] => { results := [.lit (.bool false)], args := [d1, d2, d3] }
  | _ => none }
def WholeFillsWrongFalsely : Prop := wholeFillsRow.holds Tryd.pinned (OpenSpec.ofChange wholeFillsWrong)

/-- 'colophonlaw08.WholeIdle': WHATEVER THE INPUT: true; the input reads as it did. -/
def wholeIdleSpec : ChangeSpec := { name := "wholeIdle", fn := fun _ => fun
  | [d1, d2, d3] => { results := [.lit (.bool true)], args := [d1, d2, d3] }
  | _ => none }
def wholeIdleRow : OpenClaim := { program := "ytphcmbdmkhmfbaadoor", sum := "8bb6cf155bd2ca6894b6e1cf43754df3202e4010d24f8b4b53c7c02d8c4de58e", func := "colophon/colophonlaw08.WholeIdle", spec := "wholeIdle", inPlace := ["internal/bytealg.IndexByteString", "internal/bytealg.IndexString", "internal/abi.NoEscape", "internal/bytealg.MakeNoZero"], unfollowed := true, recurses := true, named := ["internal/bytealg.MaxLen", "colophon/width.double", "colophon/width.none"], apart := false, laid := [("colophon/width.double", laid_colophon_width_double), ("colophon/width.none", laid_colophon_width_none)] }
def WholeIdleSaid : Prop := wholeIdleRow.holds Tryd.pinned (OpenSpec.ofChange wholeIdleSpec)

/-- ITS FALSE NEIGHBOUR: 'it returns false'. Refute it at one input. -/
def wholeIdleWrong : ChangeSpec := { name := "wholeIdle", fn := fun _ => fun
  | [d1, d2, d3] => { results := [.lit (.bool false)], args := [d1, d2, d3] }
  | _ => none }
def WholeIdleWrongFalsely : Prop := wholeIdleRow.holds Tryd.pinned (OpenSpec.ofChange wholeIdleWrong)

/- THE SECOND FORM. 'bulk': how many values and letters a reading holds, each counted each time it is reached (what is shared counts as often as it is met; a slice's spare places count too). A statement '..UptoSaid' is the law's where the arguments, and the package variables that the reading takes, are together of bulk at most 1048576: NARROWER than '..Said'. Prove '..Said' where nothing that the law and all that it calls make is longer than what came in: it says more and counts as full. Else prove '..UptoSaid'. A law counts once. -/
mutual
def uptoBulk {H : Type} : DataW H → Nat
  | .lit (.string bytes) => bytes.length + 1
  | .lit _ => 1
  | .nil => 1
  | .ptr d => uptoBulk d + 1
  | .slice elems spare => uptoBulkAll elems + uptoBulkAll spare + 1
  | .agg parts => uptoBulkAll parts + 1
  | .iface _ d => uptoBulk d + 1
  | .map entries => uptoBulkEntries entries + 1
  | .held _ => 1
def uptoBulkAll {H : Type} : List (DataW H) → Nat
  | [] => 0
  | d :: r => uptoBulk d + uptoBulkAll r
def uptoBulkEntries {H : Type} : List (Lit × DataW H) → Nat
  | [] => 0
  | x :: r => uptoBulkEntry x + uptoBulkEntries r
def uptoBulkEntry {H : Type} : Lit × DataW H → Nat
  | (.string bytes, d) => bytes.length + uptoBulk d + 1
  | (_, d) => uptoBulk d + 1
 end
def uptoSmall : (H : Type) → List (DataW H) → Bool := fun _ ds => decide (uptoBulkAll ds ≤ 1048576)
def OpenSpec.upto (s : _root_.Go.ChangeSpec) : _root_.Go.OpenSpec := { _root_.Go.OpenSpec.ofChange s with cond := some uptoSmall }

/-- 'colophonlaw06.SinkNames', WHERE WHAT IT READS IS OF BULK AT MOST 1048576: true; the input reads as it did. -/
def sinkNamesUptoRow : OpenClaim := { program := "ytphcmbdmkhmfbaadoor", sum := "8bb6cf155bd2ca6894b6e1cf43754df3202e4010d24f8b4b53c7c02d8c4de58e", func := "colophon/colophonlaw06.SinkNames", spec := "sinkNames", inPlace := ["internal/abi.NoEscape", "internal/bytealg.MakeNoZero"], unfollowed := true, recurses := true, named := ["colophon/width.double", "colophon/width.none"], apart := false, laid := [("colophon/width.double", laid_colophon_width_double), ("colophon/width.none", laid_colophon_width_none)], narrowed := true }
def SinkNamesUptoSaid : Prop := sinkNamesUptoRow.holds Tryd.pinned (OpenSpec.upto sinkNamesSpec)

/-- 'colophonlaw06.SinkPlays', WHERE WHAT IT READS IS OF BULK AT MOST 1048576: true; the input reads as it did. -/
def sinkPlaysUptoRow : OpenClaim := { program := "ytphcmbdmkhmfbaadoor", sum := "8bb6cf155bd2ca6894b6e1cf43754df3202e4010d24f8b4b53c7c02d8c4de58e", func := "colophon/colophonlaw06.SinkPlays", spec := "sinkPlays", inPlace := ["internal/abi.NoEscape", "internal/bytealg.MakeNoZero"], unfollowed := true, recurses := true, named := ["colophon/width.double", "colophon/width.none"], apart := false, laid := [("colophon/width.double", laid_colophon_width_double), ("colophon/width.none", laid_colophon_width_none)], narrowed := true }
def SinkPlaysUptoSaid : Prop := sinkPlaysUptoRow.holds Tryd.pinned (OpenSpec.upto sinkPlaysSpec)

/-- 'colophonlaw06.SinkTakes', WHERE WHAT IT READS IS OF BULK AT MOST 1048576: true; the input reads as it did. -/
def sinkTakesUptoRow : OpenClaim := { program := "ytphcmbdmkhmfbaadoor", sum := "8bb6cf155bd2ca6894b6e1cf43754df3202e4010d24f8b4b53c7c02d8c4de58e", func := "colophon/colophonlaw06.SinkTakes", spec := "sinkTakes", inPlace := ["internal/abi.NoEscape", "internal/bytealg.MakeNoZero"], unfollowed := true, recurses := true, named := ["colophon/width.double", "colophon/width.none"], apart := false, laid := [("colophon/width.double", laid_colophon_width_double), ("colophon/width.none", laid_colophon_width_none)], narrowed := true }
def SinkTakesUptoSaid : Prop := sinkTakesUptoRow.holds Tryd.pinned (OpenSpec.upto sinkTakesSpec)

/-- 'colophonlaw06.SinkBlanks', WHERE WHAT IT READS IS OF BULK AT MOST 1048576: true; the input reads as it did. -/
def sinkBlanksUptoRow : OpenClaim := { program := "ytphcmbdmkhmfbaadoor", sum := "8bb6cf155bd2ca6894b6e1cf43754df3202e4010d24f8b4b53c7c02d8c4de58e", func := "colophon/colophonlaw06.SinkBlanks", spec := "sinkBlanks", inPlace := ["internal/abi.NoEscape", "internal/bytealg.MakeNoZero"], unfollowed := true, recurses := true, named := ["colophon/width.double", "colophon/width.none"], apart := false, laid := [("colophon/width.double", laid_colophon_width_double), ("colophon/width.none", laid_colophon_width_none)], narrowed := true }
def SinkBlanksUptoSaid : Prop := sinkBlanksUptoRow.holds Tryd.pinned (OpenSpec.upto sinkBlanksSpec)

/-- 'colophonlaw08.WholeNames', WHERE WHAT IT READS IS OF BULK AT MOST 1048576: true; the input reads as it did. -/
def wholeNamesUptoRow : OpenClaim := { program := "ytphcmbdmkhmfbaadoor", sum := "8bb6cf155bd2ca6894b6e1cf43754df3202e4010d24f8b4b53c7c02d8c4de58e", func := "colophon/colophonlaw08.WholeNames", spec := "wholeNames", inPlace := ["internal/bytealg.IndexByteString", "internal/bytealg.IndexString", "internal/abi.NoEscape", "internal/bytealg.MakeNoZero"], unfollowed := true, recurses := true, named := ["internal/bytealg.MaxLen", "colophon/width.double", "colophon/width.none"], apart := false, laid := [("colophon/width.double", laid_colophon_width_double), ("colophon/width.none", laid_colophon_width_none)], narrowed := true }
def WholeNamesUptoSaid : Prop := wholeNamesUptoRow.holds Tryd.pinned (OpenSpec.upto wholeNamesSpec)

/-- 'colophonlaw08.WholePrints', WHERE WHAT IT READS IS OF BULK AT MOST 1048576: true; the input reads as it did. -/
def wholePrintsUptoRow : OpenClaim := { program := "ytphcmbdmkhmfbaadoor", sum := "8bb6cf155bd2ca6894b6e1cf43754df3202e4010d24f8b4b53c7c02d8c4de58e", func := "colophon/colophonlaw08.WholePrints", spec := "wholePrints", inPlace := ["internal/bytealg.IndexByteString", "internal/bytealg.IndexString", "internal/abi.NoEscape", "internal/bytealg.MakeNoZero"], unfollowed := true, recurses := true, named := ["internal/bytealg.MaxLen", "colophon/width.double", "colophon/width.none"], apart := false, laid := [("colophon/width.double", laid_colophon_width_double), ("colophon/width.none", laid_colophon_width_none)], narrowed := true }
def WholePrintsUptoSaid : Prop := wholePrintsUptoRow.holds Tryd.pinned (OpenSpec.upto wholePrintsSpec)

/-- 'colophonlaw08.WholeLines', WHERE WHAT IT READS IS OF BULK AT MOST 1048576: true; the input reads as it did. -/
def wholeLinesUptoRow : OpenClaim := { program := "ytphcmbdmkhmfbaadoor", sum := "8bb6cf155bd2ca6894b6e1cf43754df3202e4010d24f8b4b53c7c02d8c4de58e", func := "colophon/colophonlaw08.WholeLines", spec := "wholeLines", inPlace := ["internal/bytealg.IndexByteString", "internal/bytealg.IndexString", "internal/abi.NoEscape", "internal/bytealg.MakeNoZero"], unfollowed := true, recurses := true, named := ["internal/bytealg.MaxLen", "colophon/width.double", "colophon/width.none"], apart := false, laid := [("colophon/width.double", laid_colophon_width_double), ("colophon/width.none", laid_colophon_width_none)], narrowed := true }
def WholeLinesUptoSaid : Prop := wholeLinesUptoRow.holds Tryd.pinned (OpenSpec.upto wholeLinesSpec)

/-- 'colophonlaw08.WholeFills', WHERE WHAT IT READS IS OF BULK AT MOST 1048576: true; the input reads as it did. -/
def wholeFillsUptoRow : OpenClaim := { program := "ytphcmbdmkhmfbaadoor", sum := "8bb6cf155bd2ca6894b6e1cf43754df3202e4010d24f8b4b53c7c02d8c4de58e", func := "colophon/colophonlaw08.WholeFills", spec := "wholeFills", inPlace := ["internal/bytealg.IndexByteString", "internal/bytealg.IndexString", "internal/abi.NoEscape", "internal/bytealg.MakeNoZero"], unfollowed := true, recurses := true, named := ["internal/bytealg.MaxLen", "colophon/width.double", "colophon/width.none"], apart := false, laid := [("colophon/width.double", laid_colophon_width_double), ("colophon/width.none", laid_colophon_width_none)], narrowed := true }
def WholeFillsUptoSaid : Prop := wholeFillsUptoRow.holds Tryd.pinned (OpenSpec.upto wholeFillsSpec)

/-- 'colophonlaw08.WholeIdle', WHERE WHAT IT READS IS OF BULK AT MOST 1048576: true; the input reads as it did. -/
def wholeIdleUptoRow : OpenClaim := { program := "ytphcmbdmkhmfbaadoor", sum := "8bb6cf155bd2ca6894b6e1cf43754df3202e4010d24f8b4b53c7c02d8c4de58e", func := "colophon/colophonlaw08.WholeIdle", spec := "wholeIdle", inPlace := ["internal/bytealg.IndexByteString", "internal/bytealg.IndexString", "internal/abi.NoEscape", "internal/bytealg.MakeNoZero"], unfollowed := true, recurses := true, named := ["internal/bytealg.MaxLen", "colophon/width.double", "colophon/width.none"], apart := false, laid := [("colophon/width.double", laid_colophon_width_double), ("colophon/width.none", laid_colophon_width_none)], narrowed := true }
def WholeIdleUptoSaid : Prop := wholeIdleUptoRow.holds Tryd.pinned (OpenSpec.upto wholeIdleSpec)

end Rows
end Go.Proofs.YtphcmbdmkhmfbaaDoor
