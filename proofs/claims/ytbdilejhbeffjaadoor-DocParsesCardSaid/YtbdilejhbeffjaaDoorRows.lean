/-
  NARROWER THAN 'FOR EVERY INPUT', by the rows' own cells (each row's printed sentence says how): StreamNames: laid · StreamSoon: laid · StreamNil: laid · StreamWhole: laid · StreamBegins: laid · DocNames: laid · DocChecks: laid · DocParses: laid · DocBack: laid · DocReads: laid.
  DERIVED. THE GIVEN ROWS OF THIS SEAT. 10 by the template 'for every input the law returns true; each argument reads behind the call as it read before'; 0 by the template 'total and deterministic' (their statements: YtbdilejhbeffjaaDoorTotals.lean).
  GIVEN WITH THE SEED: the statements are not yours to turn. If you find one false, say at which input.
  Laid BY PROGRAM, IN A SANDBOX (cutbox-rows.mjs): the forced cells as the released guide's own fill.sh prints them over the translation b68042cc56f945e7… (all of the seat's roots in one cut). By AI agents, Wed Nov 11 2026. No macro, syntax, notation, axiom, sorry.
-/
import Derived.Test.YtbdilejhbeffjaaDoorChecked
import GoSem.Claim
import GoSem.ClaimJoined
import GoSem.ClaimMapViews
import Derived.JoinedTies
import Derived.KernelRfl
namespace Go.Proofs.YtbdilejhbeffjaaDoor
/- THE CELL 'sum', in the pinned program and in every row, IS THE sha256 OF THE DUMP (.gsa) THAT YtbdilejhbeffjaaDoorProg.lean LOADS. Nothing in Lean hashes anything: it is a label: what it is worth is what the hold of that sum in a sandbox is worth. -/
noncomputable def Tryd.pinned : Pinned := { name := "ytbdilejhbeffjaadoor", sum := "b68042cc56f945e7643121d89f645c63c29a05b8123b786d01252c7c138d1228", checked := Tryd.checked }
namespace Rows
def none {H : Type} : Left H := { results := [], args := [] }

/- WHAT THE LISTED PACKAGE-LEVEL VARIABLES READ AS WHEN THE CALL BEGINS. Each datum BY PROGRAM (the guide's laid-datum.mjs) off the statement by which the dump's own 'gosem.cut.vars' lays the variable. In a bare row this is a premise. The card (YtbdilejhbeffjaaDoorCards.lean) ties it to the program's text. -/
def laid_colophon_width_double {H : Type} : DataW H := .agg [.agg [.lit (.int .i64 4352), .lit (.int .i64 4447)], .agg [.lit (.int .i64 11904), .lit (.int .i64 12350)], .agg [.lit (.int .i64 12353), .lit (.int .i64 42191)], .agg [.lit (.int .i64 44032), .lit (.int .i64 55203)], .agg [.lit (.int .i64 63744), .lit (.int .i64 64255)], .agg [.lit (.int .i64 65072), .lit (.int .i64 65135)], .agg [.lit (.int .i64 65280), .lit (.int .i64 65376)], .agg [.lit (.int .i64 65504), .lit (.int .i64 65510)], .agg [.lit (.int .i64 127744), .lit (.int .i64 128591)], .agg [.lit (.int .i64 129280), .lit (.int .i64 129535)], .agg [.lit (.int .i64 131072), .lit (.int .i64 262141)]]
def laid_colophon_width_none {H : Type} : DataW H := .agg [.agg [.lit (.int .i64 768), .lit (.int .i64 879)], .agg [.lit (.int .i64 8203), .lit (.int .i64 8207)], .agg [.lit (.int .i64 8400), .lit (.int .i64 8447)], .agg [.lit (.int .i64 65024), .lit (.int .i64 65039)], .agg [.lit (.int .i64 65056), .lit (.int .i64 65071)]]
def laid_math_bits_deBruijn32tab {H : Type} : DataW H := .agg [.lit (.int .u8 0), .lit (.int .u8 1), .lit (.int .u8 28), .lit (.int .u8 2), .lit (.int .u8 29), .lit (.int .u8 14), .lit (.int .u8 24), .lit (.int .u8 3), .lit (.int .u8 30), .lit (.int .u8 22), .lit (.int .u8 20), .lit (.int .u8 15), .lit (.int .u8 25), .lit (.int .u8 17), .lit (.int .u8 4), .lit (.int .u8 8), .lit (.int .u8 31), .lit (.int .u8 27), .lit (.int .u8 13), .lit (.int .u8 23), .lit (.int .u8 21), .lit (.int .u8 19), .lit (.int .u8 16), .lit (.int .u8 7), .lit (.int .u8 26), .lit (.int .u8 12), .lit (.int .u8 18), .lit (.int .u8 6), .lit (.int .u8 11), .lit (.int .u8 5), .lit (.int .u8 10), .lit (.int .u8 9)]
def laid_math_bits_deBruijn64tab {H : Type} : DataW H := .agg [.lit (.int .u8 0), .lit (.int .u8 1), .lit (.int .u8 56), .lit (.int .u8 2), .lit (.int .u8 57), .lit (.int .u8 49), .lit (.int .u8 28), .lit (.int .u8 3), .lit (.int .u8 61), .lit (.int .u8 58), .lit (.int .u8 42), .lit (.int .u8 50), .lit (.int .u8 38), .lit (.int .u8 29), .lit (.int .u8 17), .lit (.int .u8 4), .lit (.int .u8 62), .lit (.int .u8 47), .lit (.int .u8 59), .lit (.int .u8 36), .lit (.int .u8 45), .lit (.int .u8 43), .lit (.int .u8 51), .lit (.int .u8 22), .lit (.int .u8 53), .lit (.int .u8 39), .lit (.int .u8 33), .lit (.int .u8 30), .lit (.int .u8 24), .lit (.int .u8 18), .lit (.int .u8 12), .lit (.int .u8 5), .lit (.int .u8 63), .lit (.int .u8 55), .lit (.int .u8 48), .lit (.int .u8 27), .lit (.int .u8 60), .lit (.int .u8 41), .lit (.int .u8 37), .lit (.int .u8 16), .lit (.int .u8 46), .lit (.int .u8 35), .lit (.int .u8 44), .lit (.int .u8 21), .lit (.int .u8 52), .lit (.int .u8 32), .lit (.int .u8 23), .lit (.int .u8 11), .lit (.int .u8 54), .lit (.int .u8 26), .lit (.int .u8 40), .lit (.int .u8 15), .lit (.int .u8 34), .lit (.int .u8 20), .lit (.int .u8 31), .lit (.int .u8 10), .lit (.int .u8 25), .lit (.int .u8 14), .lit (.int .u8 19), .lit (.int .u8 9), .lit (.int .u8 13), .lit (.int .u8 8), .lit (.int .u8 7), .lit (.int .u8 6)]
def laid_internal_strconv_uint64pow10 {H : Type} : DataW H := .agg [.lit (.int .u64 1), .lit (.int .u64 10), .lit (.int .u64 100), .lit (.int .u64 1000), .lit (.int .u64 10000), .lit (.int .u64 100000), .lit (.int .u64 1000000), .lit (.int .u64 10000000), .lit (.int .u64 100000000), .lit (.int .u64 1000000000), .lit (.int .u64 10000000000), .lit (.int .u64 100000000000), .lit (.int .u64 1000000000000), .lit (.int .u64 10000000000000), .lit (.int .u64 100000000000000), .lit (.int .u64 1000000000000000), .lit (.int .u64 10000000000000000), .lit (.int .u64 100000000000000000), .lit (.int .u64 1000000000000000000), .lit (.int .u64 10000000000000000000)]
def laid_strconv_ErrRange {H : Type} : DataW H := .iface "*errors.errorString" (.ptr (.agg [.lit (.string [118, 97, 108, 117, 101, 32, 111, 117, 116, 32, 111, 102, 32, 114, 97, 110, 103, 101])]))
def laid_strconv_ErrSyntax {H : Type} : DataW H := .iface "*errors.errorString" (.ptr (.agg [.lit (.string [105, 110, 118, 97, 108, 105, 100, 32, 115, 121, 110, 116, 97, 120])]))
def laid_colophon_doc_words {H : Type} : DataW H := .agg [.lit (.string []), .lit (.string [116, 101, 120, 116, 32]), .lit (.string [98, 108, 97, 110, 107]), .lit (.string [98, 114, 101, 97, 107, 32]), .lit (.string [104, 97, 114, 100]), .lit (.string [101, 109, 112, 116, 121]), .lit (.string [98, 101, 103, 105, 110, 32]), .lit (.string [101, 110, 100])]

/-- 'colophonlaw09.StreamNames': WHATEVER THE INPUT: true; the input reads as it did. -/
def streamNamesSpec : ChangeSpec := { name := "streamNames", fn := fun _ => fun
  | [] => { results := [.lit (.bool true)], args := [] }
  | _ => none }
def streamNamesRow : OpenClaim := { program := "ytbdilejhbeffjaadoor", sum := "b68042cc56f945e7643121d89f645c63c29a05b8123b786d01252c7c138d1228", func := "colophon/colophonlaw09.StreamNames", spec := "streamNames", inPlace := ["internal/bytealg.IndexByteString", "internal/bytealg.IndexString", "internal/abi.NoEscape", "internal/bytealg.MakeNoZero"], unfollowed := true, recurses := true, named := ["internal/bytealg.MaxLen", "colophon/width.double", "colophon/width.none"], apart := false, laid := [("colophon/width.double", laid_colophon_width_double), ("colophon/width.none", laid_colophon_width_none)] }
def StreamNamesSaid : Prop := streamNamesRow.holds Tryd.pinned (OpenSpec.ofChange streamNamesSpec)

/-- ITS FALSE NEIGHBOUR: 'it returns false'. Refute it at one input. -/
def streamNamesWrong : ChangeSpec := { name := "streamNames", fn := fun _ => fun
  | [] => { results := [.lit (.bool false)], args := [] }
  | _ => none }
def StreamNamesWrongFalsely : Prop := streamNamesRow.holds Tryd.pinned (OpenSpec.ofChange streamNamesWrong)

/-- 'colophonlaw09.StreamSoon': WHATEVER THE INPUT: true; the input reads as it did. -/
def streamSoonSpec : ChangeSpec := { name := "streamSoon", fn := fun _ => fun
  | [d1, d2] => { results := [.lit (.bool true)], args := [d1, d2] }
  | _ => none }
def streamSoonRow : OpenClaim := { program := "ytbdilejhbeffjaadoor", sum := "b68042cc56f945e7643121d89f645c63c29a05b8123b786d01252c7c138d1228", func := "colophon/colophonlaw09.StreamSoon", spec := "streamSoon", inPlace := ["internal/bytealg.IndexByteString", "internal/bytealg.IndexString", "internal/abi.NoEscape", "internal/bytealg.MakeNoZero"], unfollowed := true, recurses := true, named := ["internal/bytealg.MaxLen", "colophon/width.double", "colophon/width.none"], apart := false, laid := [("colophon/width.double", laid_colophon_width_double), ("colophon/width.none", laid_colophon_width_none)] }
def StreamSoonSaid : Prop := streamSoonRow.holds Tryd.pinned (OpenSpec.ofChange streamSoonSpec)

/-- ITS FALSE NEIGHBOUR: 'it returns false'. Refute it at one input. -/
def streamSoonWrong : ChangeSpec := { name := "streamSoon", fn := fun _ => fun
  | [d1, d2] => { results := [.lit (.bool false)], args := [d1, d2] }
  | _ => none }
def StreamSoonWrongFalsely : Prop := streamSoonRow.holds Tryd.pinned (OpenSpec.ofChange streamSoonWrong)

/-- 'colophonlaw09.StreamNil': WHATEVER THE INPUT: true; the input reads as it did. -/
def streamNilSpec : ChangeSpec := { name := "streamNil", fn := fun _ => fun
  | [d] => { results := [.lit (.bool true)], args := [d] }
  | _ => none }
def streamNilRow : OpenClaim := { program := "ytbdilejhbeffjaadoor", sum := "b68042cc56f945e7643121d89f645c63c29a05b8123b786d01252c7c138d1228", func := "colophon/colophonlaw09.StreamNil", spec := "streamNil", inPlace := ["internal/bytealg.IndexByteString", "internal/bytealg.IndexString", "internal/abi.NoEscape", "internal/bytealg.MakeNoZero"], unfollowed := true, recurses := true, named := ["internal/bytealg.MaxLen", "colophon/width.double", "colophon/width.none"], apart := false, laid := [("colophon/width.double", laid_colophon_width_double), ("colophon/width.none", laid_colophon_width_none)] }
def StreamNilSaid : Prop := streamNilRow.holds Tryd.pinned (OpenSpec.ofChange streamNilSpec)

/-- ITS FALSE NEIGHBOUR: 'it returns false'. Refute it at one input. -/
def streamNilWrong : ChangeSpec := { name := "streamNil", fn := fun _ => fun
  | [d] => { results := [.lit (.bool false)], args := [d] }
  | _ => none }
def StreamNilWrongFalsely : Prop := streamNilRow.holds Tryd.pinned (OpenSpec.ofChange streamNilWrong)

/-- 'colophonlaw09.StreamWhole': WHATEVER THE INPUT: true; the input reads as it did. -/
def streamWholeSpec : ChangeSpec := { name := "streamWhole", fn := fun _ => fun
  | [d1, d2] => { results := [.lit (.bool true)], args := [d1, d2] }
  | _ => none }
def streamWholeRow : OpenClaim := { program := "ytbdilejhbeffjaadoor", sum := "b68042cc56f945e7643121d89f645c63c29a05b8123b786d01252c7c138d1228", func := "colophon/colophonlaw09.StreamWhole", spec := "streamWhole", inPlace := ["internal/bytealg.IndexByteString", "internal/bytealg.IndexString", "internal/abi.NoEscape", "internal/bytealg.MakeNoZero"], unfollowed := true, recurses := true, named := ["internal/bytealg.MaxLen", "colophon/width.double", "colophon/width.none"], apart := false, laid := [("colophon/width.double", laid_colophon_width_double), ("colophon/width.none", laid_colophon_width_none)] }
def StreamWholeSaid : Prop := streamWholeRow.holds Tryd.pinned (OpenSpec.ofChange streamWholeSpec)

/-- ITS FALSE NEIGHBOUR: 'it returns false'. Refute it at one input. -/
def streamWholeWrong : ChangeSpec := { name := "streamWhole", fn := fun _ => fun
  | [d1, d2] => { results := [.lit (.bool false)], args := [d1, d2] }
  | _ => none }
def StreamWholeWrongFalsely : Prop := streamWholeRow.holds Tryd.pinned (OpenSpec.ofChange streamWholeWrong)

/-- 'colophonlaw09.StreamBegins': WHATEVER THE INPUT: true; the input reads as it did. -/
def streamBeginsSpec : ChangeSpec := { name := "streamBegins", fn := fun _ => fun
  | [d1, d2, d3] => { results := [.lit (.bool true)], args := [d1, d2, d3] }
  | _ => none }
def streamBeginsRow : OpenClaim := { program := "ytbdilejhbeffjaadoor", sum := "b68042cc56f945e7643121d89f645c63c29a05b8123b786d01252c7c138d1228", func := "colophon/colophonlaw09.StreamBegins", spec := "streamBegins", inPlace := ["internal/bytealg.IndexByteString", "internal/bytealg.IndexString", "internal/abi.NoEscape", "internal/bytealg.MakeNoZero"], unfollowed := true, recurses := true, named := ["internal/bytealg.MaxLen", "colophon/width.double", "colophon/width.none"], apart := false, laid := [("colophon/width.double", laid_colophon_width_double), ("colophon/width.none", laid_colophon_width_none)] }
def StreamBeginsSaid : Prop := streamBeginsRow.holds Tryd.pinned (OpenSpec.ofChange streamBeginsSpec)

/-- ITS FALSE NEIGHBOUR: 'it returns false'. Refute it at one input. -/
def streamBeginsWrong : ChangeSpec := { name := "streamBegins", fn := fun _ => fun
  | [d1, d2, d3] => { results := [.lit (.bool false)], args := [d1, d2, d3] }
  | _ => none }
def StreamBeginsWrongFalsely : Prop := streamBeginsRow.holds Tryd.pinned (OpenSpec.ofChange streamBeginsWrong)

/-- 'colophonlaw07.DocNames': WHATEVER THE INPUT: true; the input reads as it did. -/
def docNamesSpec : ChangeSpec := { name := "docNames", fn := fun _ => fun
  | [] => { results := [.lit (.bool true)], args := [] }
  | _ => none }
def docNamesRow : OpenClaim := { program := "ytbdilejhbeffjaadoor", sum := "b68042cc56f945e7643121d89f645c63c29a05b8123b786d01252c7c138d1228", func := "colophon/colophonlaw07.DocNames", spec := "docNames", inPlace := ["internal/abi.NoEscape", "internal/bytealg.IndexByteString", "internal/bytealg.IndexString"], named := ["colophon/doc.words", "internal/strconv.uint64pow10", "math/bits.deBruijn32tab", "math/bits.deBruijn64tab", "internal/bytealg.MaxLen", "strconv.ErrSyntax", "strconv.ErrRange"], apart := false, laid := [("math/bits.deBruijn32tab", laid_math_bits_deBruijn32tab), ("math/bits.deBruijn64tab", laid_math_bits_deBruijn64tab), ("internal/strconv.uint64pow10", laid_internal_strconv_uint64pow10), ("strconv.ErrRange", laid_strconv_ErrRange), ("strconv.ErrSyntax", laid_strconv_ErrSyntax), ("colophon/doc.words", laid_colophon_doc_words)] }
def DocNamesSaid : Prop := docNamesRow.holds Tryd.pinned (OpenSpec.ofChange docNamesSpec)

/-- ITS FALSE NEIGHBOUR: 'it returns false'. Refute it at one input. -/
def docNamesWrong : ChangeSpec := { name := "docNames", fn := fun _ => fun
  | [] => { results := [.lit (.bool false)], args := [] }
  | _ => none }
def DocNamesWrongFalsely : Prop := docNamesRow.holds Tryd.pinned (OpenSpec.ofChange docNamesWrong)

/-- 'colophonlaw07.DocChecks': WHATEVER THE INPUT: true; the input reads as it did. -/
def docChecksSpec : ChangeSpec := { name := "docChecks", fn := fun _ => fun
  | [d] => { results := [.lit (.bool true)], args := [d] }
  | _ => none }
def docChecksRow : OpenClaim := { program := "ytbdilejhbeffjaadoor", sum := "b68042cc56f945e7643121d89f645c63c29a05b8123b786d01252c7c138d1228", func := "colophon/colophonlaw07.DocChecks", spec := "docChecks", inPlace := ["internal/abi.NoEscape", "internal/bytealg.IndexByteString", "internal/bytealg.IndexString"], named := ["colophon/doc.words", "internal/strconv.uint64pow10", "math/bits.deBruijn32tab", "math/bits.deBruijn64tab", "internal/bytealg.MaxLen", "strconv.ErrSyntax", "strconv.ErrRange"], apart := false, laid := [("math/bits.deBruijn32tab", laid_math_bits_deBruijn32tab), ("math/bits.deBruijn64tab", laid_math_bits_deBruijn64tab), ("internal/strconv.uint64pow10", laid_internal_strconv_uint64pow10), ("strconv.ErrRange", laid_strconv_ErrRange), ("strconv.ErrSyntax", laid_strconv_ErrSyntax), ("colophon/doc.words", laid_colophon_doc_words)] }
def DocChecksSaid : Prop := docChecksRow.holds Tryd.pinned (OpenSpec.ofChange docChecksSpec)

/-- ITS FALSE NEIGHBOUR: 'it returns false'. Refute it at one input. -/
def docChecksWrong : ChangeSpec := { name := "docChecks", fn := fun _ => fun
  | [d] => { results := [.lit (.bool false)], args := [d] }
  | _ => none }
def DocChecksWrongFalsely : Prop := docChecksRow.holds Tryd.pinned (OpenSpec.ofChange docChecksWrong)

/-- 'colophonlaw07.DocParses': WHATEVER THE INPUT: true; the input reads as it did. -/
def docParsesSpec : ChangeSpec := { name := "docParses", fn := fun _ => fun
  | [d] => { results := [.lit (.bool true)], args := [d] }
  | _ => none }
def docParsesRow : OpenClaim := { program := "ytbdilejhbeffjaadoor", sum := "b68042cc56f945e7643121d89f645c63c29a05b8123b786d01252c7c138d1228", func := "colophon/colophonlaw07.DocParses", spec := "docParses", inPlace := ["internal/bytealg.IndexByteString", "internal/bytealg.IndexString", "internal/abi.NoEscape"], named := ["internal/bytealg.MaxLen", "colophon/doc.words", "strconv.ErrSyntax", "strconv.ErrRange", "internal/strconv.uint64pow10", "math/bits.deBruijn32tab", "math/bits.deBruijn64tab"], apart := false, laid := [("math/bits.deBruijn32tab", laid_math_bits_deBruijn32tab), ("math/bits.deBruijn64tab", laid_math_bits_deBruijn64tab), ("internal/strconv.uint64pow10", laid_internal_strconv_uint64pow10), ("strconv.ErrRange", laid_strconv_ErrRange), ("strconv.ErrSyntax", laid_strconv_ErrSyntax), ("colophon/doc.words", laid_colophon_doc_words)] }
def DocParsesSaid : Prop := docParsesRow.holds Tryd.pinned (OpenSpec.ofChange docParsesSpec)

/-- ITS FALSE NEIGHBOUR: 'it returns false'. Refute it at one input. -/
def docParsesWrong : ChangeSpec := { name := "docParses", fn := fun _ => fun
  | [d] => { results := [.lit (.bool false)], args := [d] }
  | _ => none }
def DocParsesWrongFalsely : Prop := docParsesRow.holds Tryd.pinned (OpenSpec.ofChange docParsesWrong)

/-- 'colophonlaw07.DocBack': WHATEVER THE INPUT: true; the input reads as it did. -/
def docBackSpec : ChangeSpec := { name := "docBack", fn := fun _ => fun
  | [d] => { results := [.lit (.bool true)], args := [d] }
  | _ => none }
def docBackRow : OpenClaim := { program := "ytbdilejhbeffjaadoor", sum := "b68042cc56f945e7643121d89f645c63c29a05b8123b786d01252c7c138d1228", func := "colophon/colophonlaw07.DocBack", spec := "docBack", inPlace := ["internal/abi.NoEscape", "internal/bytealg.IndexByteString", "internal/bytealg.IndexString"], named := ["colophon/doc.words", "internal/strconv.uint64pow10", "math/bits.deBruijn32tab", "math/bits.deBruijn64tab", "internal/bytealg.MaxLen", "strconv.ErrSyntax", "strconv.ErrRange"], apart := false, laid := [("math/bits.deBruijn32tab", laid_math_bits_deBruijn32tab), ("math/bits.deBruijn64tab", laid_math_bits_deBruijn64tab), ("internal/strconv.uint64pow10", laid_internal_strconv_uint64pow10), ("strconv.ErrRange", laid_strconv_ErrRange), ("strconv.ErrSyntax", laid_strconv_ErrSyntax), ("colophon/doc.words", laid_colophon_doc_words)] }
def DocBackSaid : Prop := docBackRow.holds Tryd.pinned (OpenSpec.ofChange docBackSpec)

/-- ITS FALSE NEIGHBOUR: 'it returns false'. Refute it at one input. -/
def docBackWrong : ChangeSpec := { name := "docBack", fn := fun _ => fun
  | [d] => { results := [.lit (.bool false)], args := [d] }
  | _ => none }
def DocBackWrongFalsely : Prop := docBackRow.holds Tryd.pinned (OpenSpec.ofChange docBackWrong)

/-- 'colophonlaw07.DocReads': WHATEVER THE INPUT: true; the input reads as it did. -/
def docReadsSpec : ChangeSpec := { name := "docReads", fn := fun _ => fun
  | [d] => { results := [.lit (.bool true)], args := [d] }
  | _ => none }
def docReadsRow : OpenClaim := { program := "ytbdilejhbeffjaadoor", sum := "b68042cc56f945e7643121d89f645c63c29a05b8123b786d01252c7c138d1228", func := "colophon/colophonlaw07.DocReads", spec := "docReads", inPlace := ["internal/bytealg.IndexByteString", "internal/bytealg.IndexString", "internal/abi.NoEscape"], named := ["internal/bytealg.MaxLen", "colophon/doc.words", "strconv.ErrSyntax", "strconv.ErrRange", "internal/strconv.uint64pow10", "math/bits.deBruijn32tab", "math/bits.deBruijn64tab"], apart := false, laid := [("math/bits.deBruijn32tab", laid_math_bits_deBruijn32tab), ("math/bits.deBruijn64tab", laid_math_bits_deBruijn64tab), ("internal/strconv.uint64pow10", laid_internal_strconv_uint64pow10), ("strconv.ErrRange", laid_strconv_ErrRange), ("strconv.ErrSyntax", laid_strconv_ErrSyntax), ("colophon/doc.words", laid_colophon_doc_words)] }
def DocReadsSaid : Prop := docReadsRow.holds Tryd.pinned (OpenSpec.ofChange docReadsSpec)

/-- ITS FALSE NEIGHBOUR: 'it returns false'. Refute it at one input. -/
def docReadsWrong : ChangeSpec := { name := "docReads", fn := fun _ => fun
  | [d] => { results := [.lit (.bool false)], args := [d] }
  | _ => none }
def DocReadsWrongFalsely : Prop := docReadsRow.holds Tryd.pinned (OpenSpec.ofChange docReadsWrong)

/- THE SECOND FORM. 'bulk': how many values and letters a reading holds, each counted each time it is reached (what is shared counts as often as it is met; a slice's spare places count too). A statement '..UptoSaid' is the law's where the arguments, and the package variables that the reading takes, are together of bulk at most 1048576: NARROWER than '..Said'. Prove '..Said' where nothing that the law and all that it calls make is longer than what came in: it says more and counts as full. Else prove '..UptoSaid'. A law counts once. -/
mutual
def uptoBulk {H : Type} : DataW H → Nat
  | .lit (.string bytes) => bytes.length + 1
  | .lit _ => 1
  | .nil => 1
  | .ptr d => uptoBulk d + 1
  | .slice elems spare => uptoBulkAll elems + uptoBulkAll spare + 1
  | .agg parts => uptoBulkAll parts + 1
  | .iface _ d => uptoBulk d + 1
  | .map entries => uptoBulkEntries entries + 1
  | .held _ => 1
def uptoBulkAll {H : Type} : List (DataW H) → Nat
  | [] => 0
  | d :: r => uptoBulk d + uptoBulkAll r
def uptoBulkEntries {H : Type} : List (Lit × DataW H) → Nat
  | [] => 0
  | x :: r => uptoBulkEntry x + uptoBulkEntries r
def uptoBulkEntry {H : Type} : Lit × DataW H → Nat
  | (.string bytes, d) => bytes.length + uptoBulk d + 1
  | (_, d) => uptoBulk d + 1
 end
def uptoSmall : (H : Type) → List (DataW H) → Bool := fun _ ds => decide (uptoBulkAll ds ≤ 1048576)
def OpenSpec.upto (s : _root_.Go.ChangeSpec) : _root_.Go.OpenSpec := { _root_.Go.OpenSpec.ofChange s with cond := some uptoSmall }

/-- 'colophonlaw09.StreamNames', WHERE WHAT IT READS IS OF BULK AT MOST 1048576: true; the input reads as it did. -/
def streamNamesUptoRow : OpenClaim := { program := "ytbdilejhbeffjaadoor", sum := "b68042cc56f945e7643121d89f645c63c29a05b8123b786d01252c7c138d1228", func := "colophon/colophonlaw09.StreamNames", spec := "streamNames", inPlace := ["internal/bytealg.IndexByteString", "internal/bytealg.IndexString", "internal/abi.NoEscape", "internal/bytealg.MakeNoZero"], unfollowed := true, recurses := true, named := ["internal/bytealg.MaxLen", "colophon/width.double", "colophon/width.none"], apart := false, laid := [("colophon/width.double", laid_colophon_width_double), ("colophon/width.none", laid_colophon_width_none)], narrowed := true }
def StreamNamesUptoSaid : Prop := streamNamesUptoRow.holds Tryd.pinned (OpenSpec.upto streamNamesSpec)

/-- 'colophonlaw09.StreamSoon', WHERE WHAT IT READS IS OF BULK AT MOST 1048576: true; the input reads as it did. -/
def streamSoonUptoRow : OpenClaim := { program := "ytbdilejhbeffjaadoor", sum := "b68042cc56f945e7643121d89f645c63c29a05b8123b786d01252c7c138d1228", func := "colophon/colophonlaw09.StreamSoon", spec := "streamSoon", inPlace := ["internal/bytealg.IndexByteString", "internal/bytealg.IndexString", "internal/abi.NoEscape", "internal/bytealg.MakeNoZero"], unfollowed := true, recurses := true, named := ["internal/bytealg.MaxLen", "colophon/width.double", "colophon/width.none"], apart := false, laid := [("colophon/width.double", laid_colophon_width_double), ("colophon/width.none", laid_colophon_width_none)], narrowed := true }
def StreamSoonUptoSaid : Prop := streamSoonUptoRow.holds Tryd.pinned (OpenSpec.upto streamSoonSpec)

/-- 'colophonlaw09.StreamNil', WHERE WHAT IT READS IS OF BULK AT MOST 1048576: true; the input reads as it did. -/
def streamNilUptoRow : OpenClaim := { program := "ytbdilejhbeffjaadoor", sum := "b68042cc56f945e7643121d89f645c63c29a05b8123b786d01252c7c138d1228", func := "colophon/colophonlaw09.StreamNil", spec := "streamNil", inPlace := ["internal/bytealg.IndexByteString", "internal/bytealg.IndexString", "internal/abi.NoEscape", "internal/bytealg.MakeNoZero"], unfollowed := true, recurses := true, named := ["internal/bytealg.MaxLen", "colophon/width.double", "colophon/width.none"], apart := false, laid := [("colophon/width.double", laid_colophon_width_double), ("colophon/width.none", laid_colophon_width_none)], narrowed := true }
def StreamNilUptoSaid : Prop := streamNilUptoRow.holds Tryd.pinned (OpenSpec.upto streamNilSpec)

/-- 'colophonlaw09.StreamWhole', WHERE WHAT IT READS IS OF BULK AT MOST 1048576: true; the input reads as it did. -/
def streamWholeUptoRow : OpenClaim := { program := "ytbdilejhbeffjaadoor", sum := "b68042cc56f945e7643121d89f645c63c29a05b8123b786d01252c7c138d1228", func := "colophon/colophonlaw09.StreamWhole", spec := "streamWhole", inPlace := ["internal/bytealg.IndexByteString", "internal/bytealg.IndexString", "internal/abi.NoEscape", "internal/bytealg.MakeNoZero"], unfollowed := true, recurses := true, named := ["internal/bytealg.MaxLen", "colophon/width.double", "colophon/width.none"], apart := false, laid := [("colophon/width.double", laid_colophon_width_double), ("colophon/width.none", laid_colophon_width_none)], narrowed := true }
def StreamWholeUptoSaid : Prop := streamWholeUptoRow.holds Tryd.pinned (OpenSpec.upto streamWholeSpec)

/-- 'colophonlaw09.StreamBegins', WHERE WHAT IT READS IS OF BULK AT MOST 1048576: true; the input reads as it did. -/
def streamBeginsUptoRow : OpenClaim := { program := "ytbdilejhbeffjaadoor", sum := "b68042cc56f945e7643121d89f645c63c29a05b8123b786d01252c7c138d1228", func := "colophon/colophonlaw09.StreamBegins", spec := "streamBegins", inPlace := ["internal/bytealg.IndexByteString", "internal/bytealg.IndexString", "internal/abi.NoEscape", "internal/bytealg.MakeNoZero"], unfollowed := true, recurses := true, named := ["internal/bytealg.MaxLen", "colophon/width.double", "colophon/width.none"], apart := false, laid := [("colophon/width.double", laid_colophon_width_double), ("colophon/width.none", laid_colophon_width_none)], narrowed := true }
def StreamBeginsUptoSaid : Prop := streamBeginsUptoRow.holds Tryd.pinned (OpenSpec.upto streamBeginsSpec)

/-- 'colophonlaw07.DocNames', WHERE WHAT IT READS IS OF BULK AT MOST 1048576: true; the input reads as it did. -/
def docNamesUptoRow : OpenClaim := { program := "ytbdilejhbeffjaadoor", sum := "b68042cc56f945e7643121d89f645c63c29a05b8123b786d01252c7c138d1228", func := "colophon/colophonlaw07.DocNames", spec := "docNames", inPlace := ["internal/abi.NoEscape", "internal/bytealg.IndexByteString", "internal/bytealg.IndexString"], named := ["colophon/doc.words", "internal/strconv.uint64pow10", "math/bits.deBruijn32tab", "math/bits.deBruijn64tab", "internal/bytealg.MaxLen", "strconv.ErrSyntax", "strconv.ErrRange"], apart := false, laid := [("math/bits.deBruijn32tab", laid_math_bits_deBruijn32tab), ("math/bits.deBruijn64tab", laid_math_bits_deBruijn64tab), ("internal/strconv.uint64pow10", laid_internal_strconv_uint64pow10), ("strconv.ErrRange", laid_strconv_ErrRange), ("strconv.ErrSyntax", laid_strconv_ErrSyntax), ("colophon/doc.words", laid_colophon_doc_words)], narrowed := true }
def DocNamesUptoSaid : Prop := docNamesUptoRow.holds Tryd.pinned (OpenSpec.upto docNamesSpec)

/-- 'colophonlaw07.DocChecks', WHERE WHAT IT READS IS OF BULK AT MOST 1048576: true; the input reads as it did. -/
def docChecksUptoRow : OpenClaim := { program := "ytbdilejhbeffjaadoor", sum := "b68042cc56f945e7643121d89f645c63c29a05b8123b786d01252c7c138d1228", func := "colophon/colophonlaw07.DocChecks", spec := "docChecks", inPlace := ["internal/abi.NoEscape", "internal/bytealg.IndexByteString", "internal/bytealg.IndexString"], named := ["colophon/doc.words", "internal/strconv.uint64pow10", "math/bits.deBruijn32tab", "math/bits.deBruijn64tab", "internal/bytealg.MaxLen", "strconv.ErrSyntax", "strconv.ErrRange"], apart := false, laid := [("math/bits.deBruijn32tab", laid_math_bits_deBruijn32tab), ("math/bits.deBruijn64tab", laid_math_bits_deBruijn64tab), ("internal/strconv.uint64pow10", laid_internal_strconv_uint64pow10), ("strconv.ErrRange", laid_strconv_ErrRange), ("strconv.ErrSyntax", laid_strconv_ErrSyntax), ("colophon/doc.words", laid_colophon_doc_words)], narrowed := true }
def DocChecksUptoSaid : Prop := docChecksUptoRow.holds Tryd.pinned (OpenSpec.upto docChecksSpec)

/-- 'colophonlaw07.DocParses', WHERE WHAT IT READS IS OF BULK AT MOST 1048576: true; the input reads as it did. -/
def docParsesUptoRow : OpenClaim := { program := "ytbdilejhbeffjaadoor", sum := "b68042cc56f945e7643121d89f645c63c29a05b8123b786d01252c7c138d1228", func := "colophon/colophonlaw07.DocParses", spec := "docParses", inPlace := ["internal/bytealg.IndexByteString", "internal/bytealg.IndexString", "internal/abi.NoEscape"], named := ["internal/bytealg.MaxLen", "colophon/doc.words", "strconv.ErrSyntax", "strconv.ErrRange", "internal/strconv.uint64pow10", "math/bits.deBruijn32tab", "math/bits.deBruijn64tab"], apart := false, laid := [("math/bits.deBruijn32tab", laid_math_bits_deBruijn32tab), ("math/bits.deBruijn64tab", laid_math_bits_deBruijn64tab), ("internal/strconv.uint64pow10", laid_internal_strconv_uint64pow10), ("strconv.ErrRange", laid_strconv_ErrRange), ("strconv.ErrSyntax", laid_strconv_ErrSyntax), ("colophon/doc.words", laid_colophon_doc_words)], narrowed := true }
def DocParsesUptoSaid : Prop := docParsesUptoRow.holds Tryd.pinned (OpenSpec.upto docParsesSpec)

/-- 'colophonlaw07.DocBack', WHERE WHAT IT READS IS OF BULK AT MOST 1048576: true; the input reads as it did. -/
def docBackUptoRow : OpenClaim := { program := "ytbdilejhbeffjaadoor", sum := "b68042cc56f945e7643121d89f645c63c29a05b8123b786d01252c7c138d1228", func := "colophon/colophonlaw07.DocBack", spec := "docBack", inPlace := ["internal/abi.NoEscape", "internal/bytealg.IndexByteString", "internal/bytealg.IndexString"], named := ["colophon/doc.words", "internal/strconv.uint64pow10", "math/bits.deBruijn32tab", "math/bits.deBruijn64tab", "internal/bytealg.MaxLen", "strconv.ErrSyntax", "strconv.ErrRange"], apart := false, laid := [("math/bits.deBruijn32tab", laid_math_bits_deBruijn32tab), ("math/bits.deBruijn64tab", laid_math_bits_deBruijn64tab), ("internal/strconv.uint64pow10", laid_internal_strconv_uint64pow10), ("strconv.ErrRange", laid_strconv_ErrRange), ("strconv.ErrSyntax", laid_strconv_ErrSyntax), ("colophon/doc.words", laid_colophon_doc_words)], narrowed := true }
def DocBackUptoSaid : Prop := docBackUptoRow.holds Tryd.pinned (OpenSpec.upto docBackSpec)

/-- 'colophonlaw07.DocReads', WHERE WHAT IT READS IS OF BULK AT MOST 1048576: true; the input reads as it did. -/
def docReadsUptoRow : OpenClaim := { program := "ytbdilejhbeffjaadoor", sum := "b68042cc56f945e7643121d89f645c63c29a05b8123b786d01252c7c138d1228", func := "colophon/colophonlaw07.DocReads", spec := "docReads", inPlace := ["internal/bytealg.IndexByteString", "internal/bytealg.IndexString", "internal/abi.NoEscape"], named := ["internal/bytealg.MaxLen", "colophon/doc.words", "strconv.ErrSyntax", "strconv.ErrRange", "internal/strconv.uint64pow10", "math/bits.deBruijn32tab", "math/bits.deBruijn64tab"], apart := false, laid := [("math/bits.deBruijn32tab", laid_math_bits_deBruijn32tab), ("math/bits.deBruijn64tab", laid_math_bits_deBruijn64tab), ("internal/strconv.uint64pow10", laid_internal_strconv_uint64pow10), ("strconv.ErrRange", laid_strconv_ErrRange), ("strconv.ErrSyntax", laid_strconv_ErrSyntax), ("colophon/doc.words", laid_colophon_doc_words)], narrowed := true }
def DocReadsUptoSaid : Prop := docReadsUptoRow.holds Tryd.pinned (OpenSpec.upto docReadsSpec)

end Rows
end Go.Proofs.YtbdilejhbeffjaaDoor
