/-
  DERIVED. GIVEN WITH THE SEED: THE CARDS: each row of YtdphhmigbbgjmaaDoorRows.lean that lists a variable, with what it lists TIED to the program's text (the seventh form; the later family's looks); each row that meets fmt, with fmt's text TOLD by the authors' own Lean function (tested against real Go, not proved from fmt's source: count such statements apart). THE CARD IS WHAT COUNTS. Prove the row's statement (the work); the ties are given (YtdphhmigbbgjmaaDoorTie.lean); close each card by the builder's one call (the guide's Derived/Test/ToyasCard.lean, 'card_holds'). Laid BY PROGRAM, IN A SANDBOX (cutbox-door.mjs). By AI agents, Wed Nov 11 2026. No macro, syntax, notation, axiom, sorry.
-/
import Derived.Test.YtdphhmigbbgjmaaDoorRows
import GoSem.ClaimSeven
namespace Go.Proofs.YtdphhmigbbgjmaaDoor
namespace Rows

/-- THE TIED CARD OF 'colophonlaw10.ScanAll'. -/
def scanAllCard : Claim7 := { stood := { row := scanAllRow, standIns := [], harness := (true, "1ffedf39593ba2cb31c529a3f3ac1a0aaa6a1317815d7980eea221abf637e447"), looks := true }, kinds := [], alts := [], laidByText := true, laidKinds := [.data, .data, .data, .pinned], laidTests := true, laidLooks := .later }
def ScanAllCardSaid : Prop := Claim7.holds Tryd.pinned (.plain (OpenSpec.ofChange scanAllSpec)) scanAllCard

/-- THE TIED CARD OF 'colophonlaw10.ScanBegins'. -/
def scanBeginsCard : Claim7 := { stood := { row := scanBeginsRow, standIns := [], harness := (true, "1ffedf39593ba2cb31c529a3f3ac1a0aaa6a1317815d7980eea221abf637e447"), looks := true }, kinds := [], alts := [], laidByText := true, laidKinds := [.data, .data, .data, .pinned], laidTests := true, laidLooks := .later }
def ScanBeginsCardSaid : Prop := Claim7.holds Tryd.pinned (.plain (OpenSpec.ofChange scanBeginsSpec)) scanBeginsCard

/-- THE TIED CARD OF 'colophonlaw10.ScanJoins'. -/
def scanJoinsCard : Claim7 := { stood := { row := scanJoinsRow, standIns := [], harness := (true, "1ffedf39593ba2cb31c529a3f3ac1a0aaa6a1317815d7980eea221abf637e447"), looks := true }, kinds := [], alts := [], laidByText := true, laidKinds := [.data, .data, .data, .pinned], laidTests := true, laidLooks := .later }
def ScanJoinsCardSaid : Prop := Claim7.holds Tryd.pinned (.plain (OpenSpec.ofChange scanJoinsSpec)) scanJoinsCard

/-- THE TIED CARD OF 'colophonlaw10.ScanCovers'. -/
def scanCoversCard : Claim7 := { stood := { row := scanCoversRow, standIns := [], harness := (true, "1ffedf39593ba2cb31c529a3f3ac1a0aaa6a1317815d7980eea221abf637e447"), looks := true }, kinds := [], alts := [], laidByText := true, laidKinds := [.data, .data, .data, .pinned], laidTests := true, laidLooks := .later }
def ScanCoversCardSaid : Prop := Claim7.holds Tryd.pinned (.plain (OpenSpec.ofChange scanCoversSpec)) scanCoversCard

/-- THE TIED CARD OF 'colophonlaw11.LexFeeds'. -/
def lexFeedsCard : Claim7 := { stood := { row := lexFeedsRow, standIns := [], harness := (true, "1ffedf39593ba2cb31c529a3f3ac1a0aaa6a1317815d7980eea221abf637e447"), looks := true }, kinds := [], alts := [], laidByText := true, laidKinds := [.data, .data, .data, .pinned], laidTests := true, laidLooks := .later }
def LexFeedsCardSaid : Prop := Claim7.holds Tryd.pinned (.plain (OpenSpec.ofChange lexFeedsSpec)) lexFeedsCard

/-- THE TIED CARD OF 'colophonlaw20.ReportShows'. -/
def reportShowsCard : Claim7 := { stood := { row := reportShowsRow, standIns := [], harness := (true, "1ffedf39593ba2cb31c529a3f3ac1a0aaa6a1317815d7980eea221abf637e447"), looks := true }, kinds := [], alts := [], laidByText := true, laidKinds := [.data, .data, .data, .data, .data, .handle], laidTests := true, laidLooks := .later }
def ReportShowsCardSaid : Prop := Claim7.holds Tryd.pinned (.plain (OpenSpec.ofChange reportShowsSpec)) reportShowsCard

/-- THE TIED CARD OF 'colophonlaw20.ReportWords'. -/
def reportWordsCard : Claim7 := { stood := { row := reportWordsRow, standIns := [], harness := (true, "1ffedf39593ba2cb31c529a3f3ac1a0aaa6a1317815d7980eea221abf637e447"), looks := true }, kinds := [], alts := [], laidByText := true, laidKinds := [.data, .data, .data, .data, .data, .handle], laidTests := true, laidLooks := .later }
def ReportWordsCardSaid : Prop := Claim7.holds Tryd.pinned (.plain (OpenSpec.ofChange reportWordsSpec)) reportWordsCard

/-- THE TIED CARD OF 'colophonlaw20.ReportMarks'. -/
def reportMarksCard : Claim7 := { stood := { row := reportMarksRow, standIns := [], harness := (true, "1ffedf39593ba2cb31c529a3f3ac1a0aaa6a1317815d7980eea221abf637e447"), looks := true }, kinds := [], alts := [], laidByText := true, laidKinds := [.data, .data, .data, .data, .data, .data, .handle, .pinned], laidTests := true, laidLooks := .later }
def ReportMarksCardSaid : Prop := Claim7.holds Tryd.pinned (.plain (OpenSpec.ofChange reportMarksSpec)) reportMarksCard

/-- THE TIED CARD OF 'colophonlaw11.LexCuts'. -/
def lexCutsCard : Claim7 := { stood := { row := lexCutsRow, standIns := [], harness := (true, "1ffedf39593ba2cb31c529a3f3ac1a0aaa6a1317815d7980eea221abf637e447"), looks := true }, kinds := [], alts := [], laidByText := true, laidKinds := [.data, .data, .data, .pinned], laidTests := true, laidLooks := .later }
def LexCutsCardSaid : Prop := Claim7.holds Tryd.pinned (.plain (OpenSpec.ofChange lexCutsSpec)) lexCutsCard

/-- THE SECOND FORM's CARD OF 'colophonlaw10.ScanAll'. -/
def scanAllUptoCard : Claim7 := { stood := { row := scanAllUptoRow, standIns := [], harness := (true, "1ffedf39593ba2cb31c529a3f3ac1a0aaa6a1317815d7980eea221abf637e447"), looks := true }, kinds := [], alts := [], laidByText := true, laidKinds := [.data, .data, .data, .pinned], laidTests := true, laidLooks := .later }
def ScanAllUptoCardSaid : Prop := Claim7.holds Tryd.pinned (.plain (OpenSpec.upto scanAllSpec)) scanAllUptoCard

/-- THE SECOND FORM's CARD OF 'colophonlaw10.ScanBegins'. -/
def scanBeginsUptoCard : Claim7 := { stood := { row := scanBeginsUptoRow, standIns := [], harness := (true, "1ffedf39593ba2cb31c529a3f3ac1a0aaa6a1317815d7980eea221abf637e447"), looks := true }, kinds := [], alts := [], laidByText := true, laidKinds := [.data, .data, .data, .pinned], laidTests := true, laidLooks := .later }
def ScanBeginsUptoCardSaid : Prop := Claim7.holds Tryd.pinned (.plain (OpenSpec.upto scanBeginsSpec)) scanBeginsUptoCard

/-- THE SECOND FORM's CARD OF 'colophonlaw10.ScanJoins'. -/
def scanJoinsUptoCard : Claim7 := { stood := { row := scanJoinsUptoRow, standIns := [], harness := (true, "1ffedf39593ba2cb31c529a3f3ac1a0aaa6a1317815d7980eea221abf637e447"), looks := true }, kinds := [], alts := [], laidByText := true, laidKinds := [.data, .data, .data, .pinned], laidTests := true, laidLooks := .later }
def ScanJoinsUptoCardSaid : Prop := Claim7.holds Tryd.pinned (.plain (OpenSpec.upto scanJoinsSpec)) scanJoinsUptoCard

/-- THE SECOND FORM's CARD OF 'colophonlaw10.ScanCovers'. -/
def scanCoversUptoCard : Claim7 := { stood := { row := scanCoversUptoRow, standIns := [], harness := (true, "1ffedf39593ba2cb31c529a3f3ac1a0aaa6a1317815d7980eea221abf637e447"), looks := true }, kinds := [], alts := [], laidByText := true, laidKinds := [.data, .data, .data, .pinned], laidTests := true, laidLooks := .later }
def ScanCoversUptoCardSaid : Prop := Claim7.holds Tryd.pinned (.plain (OpenSpec.upto scanCoversSpec)) scanCoversUptoCard

/-- THE SECOND FORM's CARD OF 'colophonlaw11.LexFeeds'. -/
def lexFeedsUptoCard : Claim7 := { stood := { row := lexFeedsUptoRow, standIns := [], harness := (true, "1ffedf39593ba2cb31c529a3f3ac1a0aaa6a1317815d7980eea221abf637e447"), looks := true }, kinds := [], alts := [], laidByText := true, laidKinds := [.data, .data, .data, .pinned], laidTests := true, laidLooks := .later }
def LexFeedsUptoCardSaid : Prop := Claim7.holds Tryd.pinned (.plain (OpenSpec.upto lexFeedsSpec)) lexFeedsUptoCard

/-- THE SECOND FORM's CARD OF 'colophonlaw20.ReportShows'. -/
def reportShowsUptoCard : Claim7 := { stood := { row := reportShowsUptoRow, standIns := [], harness := (true, "1ffedf39593ba2cb31c529a3f3ac1a0aaa6a1317815d7980eea221abf637e447"), looks := true }, kinds := [], alts := [], laidByText := true, laidKinds := [.data, .data, .data, .data, .data, .handle], laidTests := true, laidLooks := .later }
def ReportShowsUptoCardSaid : Prop := Claim7.holds Tryd.pinned (.plain (OpenSpec.upto reportShowsSpec)) reportShowsUptoCard

/-- THE SECOND FORM's CARD OF 'colophonlaw20.ReportWords'. -/
def reportWordsUptoCard : Claim7 := { stood := { row := reportWordsUptoRow, standIns := [], harness := (true, "1ffedf39593ba2cb31c529a3f3ac1a0aaa6a1317815d7980eea221abf637e447"), looks := true }, kinds := [], alts := [], laidByText := true, laidKinds := [.data, .data, .data, .data, .data, .handle], laidTests := true, laidLooks := .later }
def ReportWordsUptoCardSaid : Prop := Claim7.holds Tryd.pinned (.plain (OpenSpec.upto reportWordsSpec)) reportWordsUptoCard

/-- THE SECOND FORM's CARD OF 'colophonlaw20.ReportMarks'. -/
def reportMarksUptoCard : Claim7 := { stood := { row := reportMarksUptoRow, standIns := [], harness := (true, "1ffedf39593ba2cb31c529a3f3ac1a0aaa6a1317815d7980eea221abf637e447"), looks := true }, kinds := [], alts := [], laidByText := true, laidKinds := [.data, .data, .data, .data, .data, .data, .handle, .pinned], laidTests := true, laidLooks := .later }
def ReportMarksUptoCardSaid : Prop := Claim7.holds Tryd.pinned (.plain (OpenSpec.upto reportMarksSpec)) reportMarksUptoCard

/-- THE SECOND FORM's CARD OF 'colophonlaw11.LexCuts'. -/
def lexCutsUptoCard : Claim7 := { stood := { row := lexCutsUptoRow, standIns := [], harness := (true, "1ffedf39593ba2cb31c529a3f3ac1a0aaa6a1317815d7980eea221abf637e447"), looks := true }, kinds := [], alts := [], laidByText := true, laidKinds := [.data, .data, .data, .pinned], laidTests := true, laidLooks := .later }
def LexCutsUptoCardSaid : Prop := Claim7.holds Tryd.pinned (.plain (OpenSpec.upto lexCutsSpec)) lexCutsUptoCard
end Rows
end Go.Proofs.YtdphhmigbbgjmaaDoor
