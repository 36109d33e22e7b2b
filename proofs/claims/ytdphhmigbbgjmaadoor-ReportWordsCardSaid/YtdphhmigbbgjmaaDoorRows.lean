/-
  NARROWER THAN 'FOR EVERY INPUT', by the rows' own cells (each row's printed sentence says how): ScanAll: laid · ScanBegins: laid · ScanJoins: laid · ScanCovers: laid · LexFeeds: laid · ReportShows: laid · ReportWords: laid · ReportMarks: laid · LexCuts: laid.
  DERIVED. THE GIVEN ROWS OF THIS SEAT. 9 by the template 'for every input the law returns true; each argument reads behind the call as it read before'; 0 by the template 'total and deterministic' (their statements: YtdphhmigbbgjmaaDoorTotals.lean).
  GIVEN WITH THE SEED: the statements are not yours to turn. If you find one false, say at which input.
  Laid BY PROGRAM, IN A SANDBOX (cutbox-rows.mjs): the forced cells as the released guide's own fill.sh prints them over the translation a7f70080c5e01d0b… (all of the seat's roots in one cut). By AI agents, Wed Nov 11 2026. No macro, syntax, notation, axiom, sorry.
-/
import Derived.Test.YtdphhmigbbgjmaaDoorChecked
import GoSem.PinnedTables
import GoSem.Claim
import GoSem.ClaimJoined
import GoSem.ClaimMapViews
import Derived.JoinedTies
import Derived.KernelRfl
namespace Go.Proofs.YtdphhmigbbgjmaaDoor
/- THE CELL 'sum', in the pinned program and in every row, IS THE sha256 OF THE DUMP (.gsa) THAT YtdphhmigbbgjmaaDoorProg.lean LOADS. Nothing in Lean hashes anything: it is a label: what it is worth is what the hold of that sum in a sandbox is worth. -/
noncomputable def Tryd.pinned : Pinned := { name := "ytdphhmigbbgjmaadoor", sum := "a7f70080c5e01d0b4f6fa41049576ad36a3aa3e752c3ae80c15312d92942c084", checked := Tryd.checked }
namespace Rows
def none {H : Type} : Left H := { results := [], args := [] }

/- WHAT THE LISTED PACKAGE-LEVEL VARIABLES READ AS WHEN THE CALL BEGINS. Each datum BY PROGRAM (the guide's laid-datum.mjs) off the statement by which the dump's own 'gosem.cut.vars' lays the variable. In a bare row this is a premise. The card (YtdphhmigbbgjmaaDoorCards.lean) ties it to the program's text. -/
def laid_unicode_utf8_acceptRanges {H : Type} : DataW H := .agg [.agg [.lit (.int .u8 128), .lit (.int .u8 191)], .agg [.lit (.int .u8 160), .lit (.int .u8 191)], .agg [.lit (.int .u8 128), .lit (.int .u8 159)], .agg [.lit (.int .u8 144), .lit (.int .u8 191)], .agg [.lit (.int .u8 128), .lit (.int .u8 143)], .agg [.lit (.int .u8 0), .lit (.int .u8 0)], .agg [.lit (.int .u8 0), .lit (.int .u8 0)], .agg [.lit (.int .u8 0), .lit (.int .u8 0)], .agg [.lit (.int .u8 0), .lit (.int .u8 0)], .agg [.lit (.int .u8 0), .lit (.int .u8 0)], .agg [.lit (.int .u8 0), .lit (.int .u8 0)], .agg [.lit (.int .u8 0), .lit (.int .u8 0)], .agg [.lit (.int .u8 0), .lit (.int .u8 0)], .agg [.lit (.int .u8 0), .lit (.int .u8 0)], .agg [.lit (.int .u8 0), .lit (.int .u8 0)], .agg [.lit (.int .u8 0), .lit (.int .u8 0)]]
def laid_colophon_class_letters {H : Type} : DataW H := .agg [.agg [.lit (.int .i64 65), .lit (.int .i64 90)], .agg [.lit (.int .i64 97), .lit (.int .i64 122)], .agg [.lit (.int .i64 192), .lit (.int .i64 214)], .agg [.lit (.int .i64 216), .lit (.int .i64 246)], .agg [.lit (.int .i64 248), .lit (.int .i64 591)], .agg [.lit (.int .i64 913), .lit (.int .i64 929)], .agg [.lit (.int .i64 931), .lit (.int .i64 974)], .agg [.lit (.int .i64 1024), .lit (.int .i64 1119)], .agg [.lit (.int .i64 1488), .lit (.int .i64 1514)], .agg [.lit (.int .i64 1568), .lit (.int .i64 1610)], .agg [.lit (.int .i64 2308), .lit (.int .i64 2361)], .agg [.lit (.int .i64 12353), .lit (.int .i64 12438)], .agg [.lit (.int .i64 12449), .lit (.int .i64 12538)], .agg [.lit (.int .i64 19968), .lit (.int .i64 40959)], .agg [.lit (.int .i64 44032), .lit (.int .i64 55203)], .agg [.lit (.int .i64 66560), .lit (.int .i64 66639)], .agg [.lit (.int .i64 131072), .lit (.int .i64 196607)]]
def laid_colophon_class_others {H : Type} : DataW H := .agg [.agg [.lit (.int .i64 48), .lit (.int .i64 57)], .agg [.lit (.int .i64 95), .lit (.int .i64 95)], .agg [.lit (.int .i64 768), .lit (.int .i64 879)]]
/-- One of Go's own tables, pinned by name: the form's constant. -/
def laid_unicode_utf8_first : DataW Unit := Go.Pinned.utf8First
def laid_colophon_width_double {H : Type} : DataW H := .agg [.agg [.lit (.int .i64 4352), .lit (.int .i64 4447)], .agg [.lit (.int .i64 11904), .lit (.int .i64 12350)], .agg [.lit (.int .i64 12353), .lit (.int .i64 42191)], .agg [.lit (.int .i64 44032), .lit (.int .i64 55203)], .agg [.lit (.int .i64 63744), .lit (.int .i64 64255)], .agg [.lit (.int .i64 65072), .lit (.int .i64 65135)], .agg [.lit (.int .i64 65280), .lit (.int .i64 65376)], .agg [.lit (.int .i64 65504), .lit (.int .i64 65510)], .agg [.lit (.int .i64 127744), .lit (.int .i64 128591)], .agg [.lit (.int .i64 129280), .lit (.int .i64 129535)], .agg [.lit (.int .i64 131072), .lit (.int .i64 262141)]]
def laid_colophon_width_none {H : Type} : DataW H := .agg [.agg [.lit (.int .i64 768), .lit (.int .i64 879)], .agg [.lit (.int .i64 8203), .lit (.int .i64 8207)], .agg [.lit (.int .i64 8400), .lit (.int .i64 8447)], .agg [.lit (.int .i64 65024), .lit (.int .i64 65039)], .agg [.lit (.int .i64 65056), .lit (.int .i64 65071)]]
def laid_math_bits_deBruijn32tab {H : Type} : DataW H := .agg [.lit (.int .u8 0), .lit (.int .u8 1), .lit (.int .u8 28), .lit (.int .u8 2), .lit (.int .u8 29), .lit (.int .u8 14), .lit (.int .u8 24), .lit (.int .u8 3), .lit (.int .u8 30), .lit (.int .u8 22), .lit (.int .u8 20), .lit (.int .u8 15), .lit (.int .u8 25), .lit (.int .u8 17), .lit (.int .u8 4), .lit (.int .u8 8), .lit (.int .u8 31), .lit (.int .u8 27), .lit (.int .u8 13), .lit (.int .u8 23), .lit (.int .u8 21), .lit (.int .u8 19), .lit (.int .u8 16), .lit (.int .u8 7), .lit (.int .u8 26), .lit (.int .u8 12), .lit (.int .u8 18), .lit (.int .u8 6), .lit (.int .u8 11), .lit (.int .u8 5), .lit (.int .u8 10), .lit (.int .u8 9)]
def laid_math_bits_deBruijn64tab {H : Type} : DataW H := .agg [.lit (.int .u8 0), .lit (.int .u8 1), .lit (.int .u8 56), .lit (.int .u8 2), .lit (.int .u8 57), .lit (.int .u8 49), .lit (.int .u8 28), .lit (.int .u8 3), .lit (.int .u8 61), .lit (.int .u8 58), .lit (.int .u8 42), .lit (.int .u8 50), .lit (.int .u8 38), .lit (.int .u8 29), .lit (.int .u8 17), .lit (.int .u8 4), .lit (.int .u8 62), .lit (.int .u8 47), .lit (.int .u8 59), .lit (.int .u8 36), .lit (.int .u8 45), .lit (.int .u8 43), .lit (.int .u8 51), .lit (.int .u8 22), .lit (.int .u8 53), .lit (.int .u8 39), .lit (.int .u8 33), .lit (.int .u8 30), .lit (.int .u8 24), .lit (.int .u8 18), .lit (.int .u8 12), .lit (.int .u8 5), .lit (.int .u8 63), .lit (.int .u8 55), .lit (.int .u8 48), .lit (.int .u8 27), .lit (.int .u8 60), .lit (.int .u8 41), .lit (.int .u8 37), .lit (.int .u8 16), .lit (.int .u8 46), .lit (.int .u8 35), .lit (.int .u8 44), .lit (.int .u8 21), .lit (.int .u8 52), .lit (.int .u8 32), .lit (.int .u8 23), .lit (.int .u8 11), .lit (.int .u8 54), .lit (.int .u8 26), .lit (.int .u8 40), .lit (.int .u8 15), .lit (.int .u8 34), .lit (.int .u8 20), .lit (.int .u8 31), .lit (.int .u8 10), .lit (.int .u8 25), .lit (.int .u8 14), .lit (.int .u8 19), .lit (.int .u8 9), .lit (.int .u8 13), .lit (.int .u8 8), .lit (.int .u8 7), .lit (.int .u8 6)]
def laid_internal_strconv_uint64pow10 {H : Type} : DataW H := .agg [.lit (.int .u64 1), .lit (.int .u64 10), .lit (.int .u64 100), .lit (.int .u64 1000), .lit (.int .u64 10000), .lit (.int .u64 100000), .lit (.int .u64 1000000), .lit (.int .u64 10000000), .lit (.int .u64 100000000), .lit (.int .u64 1000000000), .lit (.int .u64 10000000000), .lit (.int .u64 100000000000), .lit (.int .u64 1000000000000), .lit (.int .u64 10000000000000), .lit (.int .u64 100000000000000), .lit (.int .u64 1000000000000000), .lit (.int .u64 10000000000000000), .lit (.int .u64 100000000000000000), .lit (.int .u64 1000000000000000000), .lit (.int .u64 10000000000000000000)]
def laid_errors_errorType {H : Type} : DataW H := .iface "internal/reflectlite.rtype" (.agg [.ptr (.lit (.string [101, 114, 114, 111, 114]))])

/-- 'colophonlaw10.ScanAll': WHATEVER THE INPUT: true; the input reads as it did. -/
def scanAllSpec : ChangeSpec := { name := "scanAll", fn := fun _ => fun
  | [d1, d2] => { results := [.lit (.bool true)], args := [d1, d2] }
  | _ => none }
def scanAllRow : OpenClaim := { program := "ytdphhmigbbgjmaadoor", sum := "a7f70080c5e01d0b4f6fa41049576ad36a3aa3e752c3ae80c15312d92942c084", func := "colophon/colophonlaw10.ScanAll", spec := "scanAll", inPlace := ["internal/bytealg.IndexByteString", "internal/bytealg.IndexString", "internal/bytealg.CountString"], named := ["unicode/utf8.first", "unicode/utf8.acceptRanges", "internal/bytealg.MaxLen", "colophon/class.letters", "colophon/class.others"], apart := false, laid := [("unicode/utf8.acceptRanges", laid_unicode_utf8_acceptRanges), ("colophon/class.letters", laid_colophon_class_letters), ("colophon/class.others", laid_colophon_class_others), ("unicode/utf8.first", laid_unicode_utf8_first)] }
def ScanAllSaid : Prop := scanAllRow.holds Tryd.pinned (OpenSpec.ofChange scanAllSpec)

/-- ITS FALSE NEIGHBOUR: 'it returns false'. Refute it at one input. -/
def scanAllWrong : ChangeSpec := { name := "scanAll", fn := fun _ => fun
  | [d1, d2] => { results := [.lit (.bool false)], args := [d1, d2] }
  | _ => none }
def ScanAllWrongFalsely : Prop := scanAllRow.holds Tryd.pinned (OpenSpec.ofChange scanAllWrong)

/-- 'colophonlaw10.ScanBegins': WHATEVER THE INPUT: true; the input reads as it did. -/
def scanBeginsSpec : ChangeSpec := { name := "scanBegins", fn := fun _ => fun
  | [d1, d2] => { results := [.lit (.bool true)], args := [d1, d2] }
  | _ => none }
def scanBeginsRow : OpenClaim := { program := "ytdphhmigbbgjmaadoor", sum := "a7f70080c5e01d0b4f6fa41049576ad36a3aa3e752c3ae80c15312d92942c084", func := "colophon/colophonlaw10.ScanBegins", spec := "scanBegins", inPlace := ["internal/bytealg.IndexByteString", "internal/bytealg.IndexString", "internal/bytealg.CountString"], named := ["unicode/utf8.first", "unicode/utf8.acceptRanges", "internal/bytealg.MaxLen", "colophon/class.letters", "colophon/class.others"], apart := false, laid := [("unicode/utf8.acceptRanges", laid_unicode_utf8_acceptRanges), ("colophon/class.letters", laid_colophon_class_letters), ("colophon/class.others", laid_colophon_class_others), ("unicode/utf8.first", laid_unicode_utf8_first)] }
def ScanBeginsSaid : Prop := scanBeginsRow.holds Tryd.pinned (OpenSpec.ofChange scanBeginsSpec)

/-- ITS FALSE NEIGHBOUR: 'it returns false'. Refute it at one input. -/
def scanBeginsWrong : ChangeSpec := { name := "scanBegins", fn := fun _ => fun
  | [d1, d2] => { results := [.lit (.bool false)], args := [d1, d2] }
  | _ => none }
def ScanBeginsWrongFalsely : Prop := scanBeginsRow.holds Tryd.pinned (OpenSpec.ofChange scanBeginsWrong)

/-- 'colophonlaw10.ScanJoins': WHATEVER THE INPUT: true; the input reads as it did. -/
def scanJoinsSpec : ChangeSpec := { name := "scanJoins", fn := fun _ => fun
  | [d1, d2] => { results := [.lit (.bool true)], args := [d1, d2] }
  | _ => none }
def scanJoinsRow : OpenClaim := { program := "ytdphhmigbbgjmaadoor", sum := "a7f70080c5e01d0b4f6fa41049576ad36a3aa3e752c3ae80c15312d92942c084", func := "colophon/colophonlaw10.ScanJoins", spec := "scanJoins", inPlace := ["internal/bytealg.IndexByteString", "internal/bytealg.IndexString", "internal/bytealg.CountString"], named := ["unicode/utf8.first", "unicode/utf8.acceptRanges", "internal/bytealg.MaxLen", "colophon/class.letters", "colophon/class.others"], apart := false, laid := [("unicode/utf8.acceptRanges", laid_unicode_utf8_acceptRanges), ("colophon/class.letters", laid_colophon_class_letters), ("colophon/class.others", laid_colophon_class_others), ("unicode/utf8.first", laid_unicode_utf8_first)] }
def ScanJoinsSaid : Prop := scanJoinsRow.holds Tryd.pinned (OpenSpec.ofChange scanJoinsSpec)

/-- ITS FALSE NEIGHBOUR: 'it returns false'. Refute it at one input. -/
def scanJoinsWrong : ChangeSpec := { name := "scanJoins", fn := fun _ => fun
  | [d1, d2] => { results := [.lit (.bool false)], args := [d1, d2] }
  | _ => none }
def ScanJoinsWrongFalsely : Prop := scanJoinsRow.holds Tryd.pinned (OpenSpec.ofChange scanJoinsWrong)

/-- 'colophonlaw10.ScanCovers': WHATEVER THE INPUT: true; the input reads as it did. -/
def scanCoversSpec : ChangeSpec := { name := "scanCovers", fn := fun _ => fun
  | [d] => { results := [.lit (.bool true)], args := [d] }
  | _ => none }
def scanCoversRow : OpenClaim := { program := "ytdphhmigbbgjmaadoor", sum := "a7f70080c5e01d0b4f6fa41049576ad36a3aa3e752c3ae80c15312d92942c084", func := "colophon/colophonlaw10.ScanCovers", spec := "scanCovers", inPlace := ["internal/bytealg.IndexByteString", "internal/bytealg.IndexString", "internal/bytealg.CountString"], named := ["unicode/utf8.first", "unicode/utf8.acceptRanges", "internal/bytealg.MaxLen", "colophon/class.letters", "colophon/class.others"], apart := false, laid := [("unicode/utf8.acceptRanges", laid_unicode_utf8_acceptRanges), ("colophon/class.letters", laid_colophon_class_letters), ("colophon/class.others", laid_colophon_class_others), ("unicode/utf8.first", laid_unicode_utf8_first)] }
def ScanCoversSaid : Prop := scanCoversRow.holds Tryd.pinned (OpenSpec.ofChange scanCoversSpec)

/-- ITS FALSE NEIGHBOUR: 'it returns false'. Refute it at one input. -/
def scanCoversWrong : ChangeSpec := { name := "scanCovers", fn := fun _ => fun
  | [d] => { results := [.lit (.bool false)], args := [d] }
  | _ => none }
def ScanCoversWrongFalsely : Prop := scanCoversRow.holds Tryd.pinned (OpenSpec.ofChange scanCoversWrong)

/-- 'colophonlaw11.LexFeeds': WHATEVER THE INPUT: true; the input reads as it did. -/
def lexFeedsSpec : ChangeSpec := { name := "lexFeeds", fn := fun _ => fun
  | [d1, d2, d3] => { results := [.lit (.bool true)], args := [d1, d2, d3] }
  | _ => none }
def lexFeedsRow : OpenClaim := { program := "ytdphhmigbbgjmaadoor", sum := "a7f70080c5e01d0b4f6fa41049576ad36a3aa3e752c3ae80c15312d92942c084", func := "colophon/colophonlaw11.LexFeeds", spec := "lexFeeds", inPlace := ["internal/bytealg.IndexByteString", "internal/bytealg.IndexString", "internal/bytealg.CountString"], named := ["unicode/utf8.first", "unicode/utf8.acceptRanges", "colophon/class.letters", "colophon/class.others", "internal/bytealg.MaxLen"], apart := false, laid := [("unicode/utf8.acceptRanges", laid_unicode_utf8_acceptRanges), ("colophon/class.letters", laid_colophon_class_letters), ("colophon/class.others", laid_colophon_class_others), ("unicode/utf8.first", laid_unicode_utf8_first)] }
def LexFeedsSaid : Prop := lexFeedsRow.holds Tryd.pinned (OpenSpec.ofChange lexFeedsSpec)

/-- ITS FALSE NEIGHBOUR: 'it returns false'. Refute it at one input. -/
def lexFeedsWrong : ChangeSpec := { name := "lexFeeds", fn := fun _ => fun
  | [d1, d2, d3] => { results := [.lit (.bool false)], args := [d1, d2, d3] }
  | _ => none }
def LexFeedsWrongFalsely : Prop := lexFeedsRow.holds Tryd.pinned (OpenSpec.ofChange lexFeedsWrong)

/-- 'colophonlaw20.ReportShows': WHATEVER THE INPUT: true; the input reads as it did. -/
def reportShowsSpec : ChangeSpec := { name := "reportShows", fn := fun _ => fun
  | [d1, d2, d3] => { results := [.lit (.bool true)], args := [d1, d2, d3] }
  | _ => none }
def reportShowsRow : OpenClaim := { program := "ytdphhmigbbgjmaadoor", sum := "a7f70080c5e01d0b4f6fa41049576ad36a3aa3e752c3ae80c15312d92942c084", func := "colophon/colophonlaw20.ReportShows", spec := "reportShows", inPlace := ["internal/reflectlite.ValueOf", "(internal/reflectlite.Value).Type", "(internal/reflectlite.Value).IsNil", "internal/reflectlite.TypeOf", "(internal/reflectlite.Value).Elem", "(internal/reflectlite.Value).Set", "internal/bytealg.IndexByteString", "internal/bytealg.IndexString", "internal/abi.NoEscape", "internal/bytealg.MakeNoZero"], unfollowed := true, recurses := true, named := ["errors.errorType", "internal/strconv.uint64pow10", "math/bits.deBruijn32tab", "math/bits.deBruijn64tab", "internal/bytealg.MaxLen", "colophon/width.double", "colophon/width.none"], apart := false, laid := [("colophon/width.double", laid_colophon_width_double), ("colophon/width.none", laid_colophon_width_none), ("math/bits.deBruijn32tab", laid_math_bits_deBruijn32tab), ("math/bits.deBruijn64tab", laid_math_bits_deBruijn64tab), ("internal/strconv.uint64pow10", laid_internal_strconv_uint64pow10), ("errors.errorType", laid_errors_errorType)] }
def ReportShowsSaid : Prop := reportShowsRow.holds Tryd.pinned (OpenSpec.ofChange reportShowsSpec)

/-- ITS FALSE NEIGHBOUR: 'it returns false'. Refute it at one input. -/
def reportShowsWrong : ChangeSpec := { name := "reportShows", fn := fun _ => fun
  | [d1, d2, d3] => { results := [.lit (.bool false)], args := [d1, d2, d3] }
  | _ => none }
def ReportShowsWrongFalsely : Prop := reportShowsRow.holds Tryd.pinned (OpenSpec.ofChange reportShowsWrong)

/-- 'colophonlaw20.ReportWords': WHATEVER THE INPUT: true; the input reads as it did. -/
def reportWordsSpec : ChangeSpec := { name := "reportWords", fn := fun _ => fun
  | [d1, d2, d3] => { results := [.lit (.bool true)], args := [d1, d2, d3] }
  | _ => none }
def reportWordsRow : OpenClaim := { program := "ytdphhmigbbgjmaadoor", sum := "a7f70080c5e01d0b4f6fa41049576ad36a3aa3e752c3ae80c15312d92942c084", func := "colophon/colophonlaw20.ReportWords", spec := "reportWords", inPlace := ["internal/reflectlite.ValueOf", "(internal/reflectlite.Value).Type", "(internal/reflectlite.Value).IsNil", "internal/reflectlite.TypeOf", "(internal/reflectlite.Value).Elem", "(internal/reflectlite.Value).Set", "internal/bytealg.IndexByteString", "internal/bytealg.IndexString", "internal/abi.NoEscape", "internal/bytealg.MakeNoZero"], unfollowed := true, recurses := true, named := ["errors.errorType", "internal/strconv.uint64pow10", "math/bits.deBruijn32tab", "math/bits.deBruijn64tab", "internal/bytealg.MaxLen", "colophon/width.double", "colophon/width.none"], apart := false, laid := [("colophon/width.double", laid_colophon_width_double), ("colophon/width.none", laid_colophon_width_none), ("math/bits.deBruijn32tab", laid_math_bits_deBruijn32tab), ("math/bits.deBruijn64tab", laid_math_bits_deBruijn64tab), ("internal/strconv.uint64pow10", laid_internal_strconv_uint64pow10), ("errors.errorType", laid_errors_errorType)] }
def ReportWordsSaid : Prop := reportWordsRow.holds Tryd.pinned (OpenSpec.ofChange reportWordsSpec)

/-- ITS FALSE NEIGHBOUR: 'it returns false'. Refute it at one input. -/
def reportWordsWrong : ChangeSpec := { name := "reportWords", fn := fun _ => fun
  | [d1, d2, d3] => { results := [.lit (.bool false)], args := [d1, d2, d3] }
  | _ => none }
def ReportWordsWrongFalsely : Prop := reportWordsRow.holds Tryd.pinned (OpenSpec.ofChange reportWordsWrong)

/-- 'colophonlaw20.ReportMarks': WHATEVER THE INPUT: true; the input reads as it did. -/
def reportMarksSpec : ChangeSpec := { name := "reportMarks", fn := fun _ => fun
  | [d1, d2] => { results := [.lit (.bool true)], args := [d1, d2] }
  | _ => none }
def reportMarksRow : OpenClaim := { program := "ytdphhmigbbgjmaadoor", sum := "a7f70080c5e01d0b4f6fa41049576ad36a3aa3e752c3ae80c15312d92942c084", func := "colophon/colophonlaw20.ReportMarks", spec := "reportMarks", inPlace := ["internal/reflectlite.ValueOf", "(internal/reflectlite.Value).Type", "(internal/reflectlite.Value).IsNil", "internal/reflectlite.TypeOf", "(internal/reflectlite.Value).Elem", "(internal/reflectlite.Value).Set", "internal/bytealg.IndexByteString", "internal/bytealg.IndexString", "internal/abi.NoEscape", "internal/bytealg.MakeNoZero", "internal/bytealg.CountString"], unfollowed := true, recurses := true, named := ["errors.errorType", "internal/strconv.uint64pow10", "math/bits.deBruijn32tab", "math/bits.deBruijn64tab", "internal/bytealg.MaxLen", "colophon/width.double", "colophon/width.none", "unicode/utf8.first", "unicode/utf8.acceptRanges"], apart := false, laid := [("colophon/width.double", laid_colophon_width_double), ("colophon/width.none", laid_colophon_width_none), ("math/bits.deBruijn32tab", laid_math_bits_deBruijn32tab), ("math/bits.deBruijn64tab", laid_math_bits_deBruijn64tab), ("internal/strconv.uint64pow10", laid_internal_strconv_uint64pow10), ("unicode/utf8.acceptRanges", laid_unicode_utf8_acceptRanges), ("errors.errorType", laid_errors_errorType), ("unicode/utf8.first", laid_unicode_utf8_first)] }
def ReportMarksSaid : Prop := reportMarksRow.holds Tryd.pinned (OpenSpec.ofChange reportMarksSpec)

/-- ITS FALSE NEIGHBOUR: 'it returns false'. Refute it at one input. -/
def reportMarksWrong : ChangeSpec := { name := "reportMarks", fn := fun _ => fun
  | [d1, d2] => { results := [.lit (.bool false)], args := [d1, d2] }
  | _ => none }
def ReportMarksWrongFalsely : Prop := reportMarksRow.holds Tryd.pinned (OpenSpec.ofChange reportMarksWrong)

/-- 'colophonlaw11.LexCuts': WHATEVER THE INPUT: true; the input reads as it did. -/
def lexCutsSpec : ChangeSpec := { name := "lexCuts", fn := fun _ => fun
  | [d] => { results := [.lit (.bool true)], args := [d] }
  | _ => none }
def lexCutsRow : OpenClaim := { program := "ytdphhmigbbgjmaadoor", sum := "a7f70080c5e01d0b4f6fa41049576ad36a3aa3e752c3ae80c15312d92942c084", func := "colophon/colophonlaw11.LexCuts", spec := "lexCuts", inPlace := ["internal/bytealg.IndexByteString", "internal/bytealg.IndexString", "internal/bytealg.CountString"], named := ["unicode/utf8.first", "unicode/utf8.acceptRanges", "colophon/class.letters", "colophon/class.others", "internal/bytealg.MaxLen"], apart := false, laid := [("unicode/utf8.acceptRanges", laid_unicode_utf8_acceptRanges), ("colophon/class.letters", laid_colophon_class_letters), ("colophon/class.others", laid_colophon_class_others), ("unicode/utf8.first", laid_unicode_utf8_first)] }
def LexCutsSaid : Prop := lexCutsRow.holds Tryd.pinned (OpenSpec.ofChange lexCutsSpec)

/-- ITS FALSE NEIGHBOUR: 'it returns false'. Refute it at one input. -/
def lexCutsWrong : ChangeSpec := { name := "lexCuts", fn := fun _ => fun
  | [d] => { results := [.lit (.bool false)], args := [d] }
  | _ => none }
def LexCutsWrongFalsely : Prop := lexCutsRow.holds Tryd.pinned (OpenSpec.ofChange lexCutsWrong)

/- THE SECOND FORM. 'bulk': how many values and letters a reading holds, each counted each time it is reached (what is shared counts as often as it is met; a slice's spare places count too). A statement '..UptoSaid' is the law's where the arguments, and the package variables that the reading takes, are together of bulk at most 1048576: NARROWER than '..Said'. Prove '..Said' where nothing that the law and all that it calls make is longer than what came in: it says more and counts as full. Else prove '..UptoSaid'. A law counts once. -/
mutual
def uptoBulk {H : Type} : DataW H → Nat
  | .lit (.string bytes) => bytes.length + 1
  | .lit _ => 1
  | .nil => 1
  | .ptr d => uptoBulk d + 1
  | .slice elems spare => uptoBulkAll elems + uptoBulkAll spare + 1
  | .agg parts => uptoBulkAll parts + 1
  | .iface _ d => uptoBulk d + 1
  | .map entries => uptoBulkEntries entries + 1
  | .held _ => 1
def uptoBulkAll {H : Type} : List (DataW H) → Nat
  | [] => 0
  | d :: r => uptoBulk d + uptoBulkAll r
def uptoBulkEntries {H : Type} : List (Lit × DataW H) → Nat
  | [] => 0
  | x :: r => uptoBulkEntry x + uptoBulkEntries r
def uptoBulkEntry {H : Type} : Lit × DataW H → Nat
  | (.string bytes, d) => bytes.length + uptoBulk d + 1
  | (_, d) => uptoBulk d + 1
 end
def uptoSmall : (H : Type) → List (DataW H) → Bool := fun _ ds => decide (uptoBulkAll ds ≤ 1048576)
def OpenSpec.upto (s : _root_.Go.ChangeSpec) : _root_.Go.OpenSpec := { _root_.Go.OpenSpec.ofChange s with cond := some uptoSmall }

/-- 'colophonlaw10.ScanAll', WHERE WHAT IT READS IS OF BULK AT MOST 1048576: true; the input reads as it did. -/
def scanAllUptoRow : OpenClaim := { program := "ytdphhmigbbgjmaadoor", sum := "a7f70080c5e01d0b4f6fa41049576ad36a3aa3e752c3ae80c15312d92942c084", func := "colophon/colophonlaw10.ScanAll", spec := "scanAll", inPlace := ["internal/bytealg.IndexByteString", "internal/bytealg.IndexString", "internal/bytealg.CountString"], named := ["unicode/utf8.first", "unicode/utf8.acceptRanges", "internal/bytealg.MaxLen", "colophon/class.letters", "colophon/class.others"], apart := false, laid := [("unicode/utf8.acceptRanges", laid_unicode_utf8_acceptRanges), ("colophon/class.letters", laid_colophon_class_letters), ("colophon/class.others", laid_colophon_class_others), ("unicode/utf8.first", laid_unicode_utf8_first)], narrowed := true }
def ScanAllUptoSaid : Prop := scanAllUptoRow.holds Tryd.pinned (OpenSpec.upto scanAllSpec)

/-- 'colophonlaw10.ScanBegins', WHERE WHAT IT READS IS OF BULK AT MOST 1048576: true; the input reads as it did. -/
def scanBeginsUptoRow : OpenClaim := { program := "ytdphhmigbbgjmaadoor", sum := "a7f70080c5e01d0b4f6fa41049576ad36a3aa3e752c3ae80c15312d92942c084", func := "colophon/colophonlaw10.ScanBegins", spec := "scanBegins", inPlace := ["internal/bytealg.IndexByteString", "internal/bytealg.IndexString", "internal/bytealg.CountString"], named := ["unicode/utf8.first", "unicode/utf8.acceptRanges", "internal/bytealg.MaxLen", "colophon/class.letters", "colophon/class.others"], apart := false, laid := [("unicode/utf8.acceptRanges", laid_unicode_utf8_acceptRanges), ("colophon/class.letters", laid_colophon_class_letters), ("colophon/class.others", laid_colophon_class_others), ("unicode/utf8.first", laid_unicode_utf8_first)], narrowed := true }
def ScanBeginsUptoSaid : Prop := scanBeginsUptoRow.holds Tryd.pinned (OpenSpec.upto scanBeginsSpec)

/-- 'colophonlaw10.ScanJoins', WHERE WHAT IT READS IS OF BULK AT MOST 1048576: true; the input reads as it did. -/
def scanJoinsUptoRow : OpenClaim := { program := "ytdphhmigbbgjmaadoor", sum := "a7f70080c5e01d0b4f6fa41049576ad36a3aa3e752c3ae80c15312d92942c084", func := "colophon/colophonlaw10.ScanJoins", spec := "scanJoins", inPlace := ["internal/bytealg.IndexByteString", "internal/bytealg.IndexString", "internal/bytealg.CountString"], named := ["unicode/utf8.first", "unicode/utf8.acceptRanges", "internal/bytealg.MaxLen", "colophon/class.letters", "colophon/class.others"], apart := false, laid := [("unicode/utf8.acceptRanges", laid_unicode_utf8_acceptRanges), ("colophon/class.letters", laid_colophon_class_letters), ("colophon/class.others", laid_colophon_class_others), ("unicode/utf8.first", laid_unicode_utf8_first)], narrowed := true }
def ScanJoinsUptoSaid : Prop := scanJoinsUptoRow.holds Tryd.pinned (OpenSpec.upto scanJoinsSpec)

/-- 'colophonlaw10.ScanCovers', WHERE WHAT IT READS IS OF BULK AT MOST 1048576: true; the input reads as it did. -/
def scanCoversUptoRow : OpenClaim := { program := "ytdphhmigbbgjmaadoor", sum := "a7f70080c5e01d0b4f6fa41049576ad36a3aa3e752c3ae80c15312d92942c084", func := "colophon/colophonlaw10.ScanCovers", spec := "scanCovers", inPlace := ["internal/bytealg.IndexByteString", "internal/bytealg.IndexString", "internal/bytealg.CountString"], named := ["unicode/utf8.first", "unicode/utf8.acceptRanges", "internal/bytealg.MaxLen", "colophon/class.letters", "colophon/class.others"], apart := false, laid := [("unicode/utf8.acceptRanges", laid_unicode_utf8_acceptRanges), ("colophon/class.letters", laid_colophon_class_letters), ("colophon/class.others", laid_colophon_class_others), ("unicode/utf8.first", laid_unicode_utf8_first)], narrowed := true }
def ScanCoversUptoSaid : Prop := scanCoversUptoRow.holds Tryd.pinned (OpenSpec.upto scanCoversSpec)

/-- 'colophonlaw11.LexFeeds', WHERE WHAT IT READS IS OF BULK AT MOST 1048576: true; the input reads as it did. -/
def lexFeedsUptoRow : OpenClaim := { program := "ytdphhmigbbgjmaadoor", sum := "a7f70080c5e01d0b4f6fa41049576ad36a3aa3e752c3ae80c15312d92942c084", func := "colophon/colophonlaw11.LexFeeds", spec := "lexFeeds", inPlace := ["internal/bytealg.IndexByteString", "internal/bytealg.IndexString", "internal/bytealg.CountString"], named := ["unicode/utf8.first", "unicode/utf8.acceptRanges", "colophon/class.letters", "colophon/class.others", "internal/bytealg.MaxLen"], apart := false, laid := [("unicode/utf8.acceptRanges", laid_unicode_utf8_acceptRanges), ("colophon/class.letters", laid_colophon_class_letters), ("colophon/class.others", laid_colophon_class_others), ("unicode/utf8.first", laid_unicode_utf8_first)], narrowed := true }
def LexFeedsUptoSaid : Prop := lexFeedsUptoRow.holds Tryd.pinned (OpenSpec.upto lexFeedsSpec)

/-- 'colophonlaw20.ReportShows', WHERE WHAT IT READS IS OF BULK AT MOST 1048576: true; the input reads as it did. -/
def reportShowsUptoRow : OpenClaim := { program := "ytdphhmigbbgjmaadoor", sum := "a7f70080c5e01d0b4f6fa41049576ad36a3aa3e752c3ae80c15312d92942c084", func := "colophon/colophonlaw20.ReportShows", spec := "reportShows", inPlace := ["internal/reflectlite.ValueOf", "(internal/reflectlite.Value).Type", "(internal/reflectlite.Value).IsNil", "internal/reflectlite.TypeOf", "(internal/reflectlite.Value).Elem", "(internal/reflectlite.Value).Set", "internal/bytealg.IndexByteString", "internal/bytealg.IndexString", "internal/abi.NoEscape", "internal/bytealg.MakeNoZero"], unfollowed := true, recurses := true, named := ["errors.errorType", "internal/strconv.uint64pow10", "math/bits.deBruijn32tab", "math/bits.deBruijn64tab", "internal/bytealg.MaxLen", "colophon/width.double", "colophon/width.none"], apart := false, laid := [("colophon/width.double", laid_colophon_width_double), ("colophon/width.none", laid_colophon_width_none), ("math/bits.deBruijn32tab", laid_math_bits_deBruijn32tab), ("math/bits.deBruijn64tab", laid_math_bits_deBruijn64tab), ("internal/strconv.uint64pow10", laid_internal_strconv_uint64pow10), ("errors.errorType", laid_errors_errorType)], narrowed := true }
def ReportShowsUptoSaid : Prop := reportShowsUptoRow.holds Tryd.pinned (OpenSpec.upto reportShowsSpec)

/-- 'colophonlaw20.ReportWords', WHERE WHAT IT READS IS OF BULK AT MOST 1048576: true; the input reads as it did. -/
def reportWordsUptoRow : OpenClaim := { program := "ytdphhmigbbgjmaadoor", sum := "a7f70080c5e01d0b4f6fa41049576ad36a3aa3e752c3ae80c15312d92942c084", func := "colophon/colophonlaw20.ReportWords", spec := "reportWords", inPlace := ["internal/reflectlite.ValueOf", "(internal/reflectlite.Value).Type", "(internal/reflectlite.Value).IsNil", "internal/reflectlite.TypeOf", "(internal/reflectlite.Value).Elem", "(internal/reflectlite.Value).Set", "internal/bytealg.IndexByteString", "internal/bytealg.IndexString", "internal/abi.NoEscape", "internal/bytealg.MakeNoZero"], unfollowed := true, recurses := true, named := ["errors.errorType", "internal/strconv.uint64pow10", "math/bits.deBruijn32tab", "math/bits.deBruijn64tab", "internal/bytealg.MaxLen", "colophon/width.double", "colophon/width.none"], apart := false, laid := [("colophon/width.double", laid_colophon_width_double), ("colophon/width.none", laid_colophon_width_none), ("math/bits.deBruijn32tab", laid_math_bits_deBruijn32tab), ("math/bits.deBruijn64tab", laid_math_bits_deBruijn64tab), ("internal/strconv.uint64pow10", laid_internal_strconv_uint64pow10), ("errors.errorType", laid_errors_errorType)], narrowed := true }
def ReportWordsUptoSaid : Prop := reportWordsUptoRow.holds Tryd.pinned (OpenSpec.upto reportWordsSpec)

/-- 'colophonlaw20.ReportMarks', WHERE WHAT IT READS IS OF BULK AT MOST 1048576: true; the input reads as it did. -/
def reportMarksUptoRow : OpenClaim := { program := "ytdphhmigbbgjmaadoor", sum := "a7f70080c5e01d0b4f6fa41049576ad36a3aa3e752c3ae80c15312d92942c084", func := "colophon/colophonlaw20.ReportMarks", spec := "reportMarks", inPlace := ["internal/reflectlite.ValueOf", "(internal/reflectlite.Value).Type", "(internal/reflectlite.Value).IsNil", "internal/reflectlite.TypeOf", "(internal/reflectlite.Value).Elem", "(internal/reflectlite.Value).Set", "internal/bytealg.IndexByteString", "internal/bytealg.IndexString", "internal/abi.NoEscape", "internal/bytealg.MakeNoZero", "internal/bytealg.CountString"], unfollowed := true, recurses := true, named := ["errors.errorType", "internal/strconv.uint64pow10", "math/bits.deBruijn32tab", "math/bits.deBruijn64tab", "internal/bytealg.MaxLen", "colophon/width.double", "colophon/width.none", "unicode/utf8.first", "unicode/utf8.acceptRanges"], apart := false, laid := [("colophon/width.double", laid_colophon_width_double), ("colophon/width.none", laid_colophon_width_none), ("math/bits.deBruijn32tab", laid_math_bits_deBruijn32tab), ("math/bits.deBruijn64tab", laid_math_bits_deBruijn64tab), ("internal/strconv.uint64pow10", laid_internal_strconv_uint64pow10), ("unicode/utf8.acceptRanges", laid_unicode_utf8_acceptRanges), ("errors.errorType", laid_errors_errorType), ("unicode/utf8.first", laid_unicode_utf8_first)], narrowed := true }
def ReportMarksUptoSaid : Prop := reportMarksUptoRow.holds Tryd.pinned (OpenSpec.upto reportMarksSpec)

/-- 'colophonlaw11.LexCuts', WHERE WHAT IT READS IS OF BULK AT MOST 1048576: true; the input reads as it did. -/
def lexCutsUptoRow : OpenClaim := { program := "ytdphhmigbbgjmaadoor", sum := "a7f70080c5e01d0b4f6fa41049576ad36a3aa3e752c3ae80c15312d92942c084", func := "colophon/colophonlaw11.LexCuts", spec := "lexCuts", inPlace := ["internal/bytealg.IndexByteString", "internal/bytealg.IndexString", "internal/bytealg.CountString"], named := ["unicode/utf8.first", "unicode/utf8.acceptRanges", "colophon/class.letters", "colophon/class.others", "internal/bytealg.MaxLen"], apart := false, laid := [("unicode/utf8.acceptRanges", laid_unicode_utf8_acceptRanges), ("colophon/class.letters", laid_colophon_class_letters), ("colophon/class.others", laid_colophon_class_others), ("unicode/utf8.first", laid_unicode_utf8_first)], narrowed := true }
def LexCutsUptoSaid : Prop := lexCutsUptoRow.holds Tryd.pinned (OpenSpec.upto lexCutsSpec)

end Rows
end Go.Proofs.YtdphhmigbbgjmaaDoor
