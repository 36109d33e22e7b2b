/-
  DERIVED. GIVEN WITH THE SEED: THE CARDS: each row of YtphcmbdmkhmfbaaDoorRows.lean that lists a variable, with what it lists TIED to the program's text (the seventh form; the later family's looks); each row that meets fmt, with fmt's text TOLD by the authors' own Lean function (tested against real Go, not proved from fmt's source: count such statements apart). THE CARD IS WHAT COUNTS. Prove the row's statement (the work); the ties are given (YtphcmbdmkhmfbaaDoorTie.lean); close each card by the builder's one call (the guide's Derived/Test/ToyasCard.lean, 'card_holds'). Laid BY PROGRAM, IN A SANDBOX (cutbox-door.mjs). By AI agents, Wed Nov 11 2026. No macro, syntax, notation, axiom, sorry.
-/
import Derived.Test.YtphcmbdmkhmfbaaDoorRows
import GoSem.ClaimSeven
namespace Go.Proofs.YtphcmbdmkhmfbaaDoor
namespace Rows

/-- THE TIED CARD OF 'colophonlaw06.SinkNames'. -/
def sinkNamesCard : Claim7 := { stood := { row := sinkNamesRow, standIns := [], harness := (true, "eb7a383311c01a96d1a591c92634607570df651227ec0563c4682087e04b9551"), looks := false }, kinds := [], alts := [], laidByText := true, laidKinds := [.data, .data], laidTests := true, laidLooks := .later }
def SinkNamesCardSaid : Prop := Claim7.holds Tryd.pinned (.plain (OpenSpec.ofChange sinkNamesSpec)) sinkNamesCard

/-- THE TIED CARD OF 'colophonlaw06.SinkPlays'. -/
def sinkPlaysCard : Claim7 := { stood := { row := sinkPlaysRow, standIns := [], harness := (true, "eb7a383311c01a96d1a591c92634607570df651227ec0563c4682087e04b9551"), looks := false }, kinds := [], alts := [], laidByText := true, laidKinds := [.data, .data], laidTests := true, laidLooks := .later }
def SinkPlaysCardSaid : Prop := Claim7.holds Tryd.pinned (.plain (OpenSpec.ofChange sinkPlaysSpec)) sinkPlaysCard

/-- THE TIED CARD OF 'colophonlaw06.SinkTakes'. -/
def sinkTakesCard : Claim7 := { stood := { row := sinkTakesRow, standIns := [], harness := (true, "eb7a383311c01a96d1a591c92634607570df651227ec0563c4682087e04b9551"), looks := false }, kinds := [], alts := [], laidByText := true, laidKinds := [.data, .data], laidTests := true, laidLooks := .later }
def SinkTakesCardSaid : Prop := Claim7.holds Tryd.pinned (.plain (OpenSpec.ofChange sinkTakesSpec)) sinkTakesCard

/-- THE TIED CARD OF 'colophonlaw06.SinkBlanks'. -/
def sinkBlanksCard : Claim7 := { stood := { row := sinkBlanksRow, standIns := [], harness := (true, "eb7a383311c01a96d1a591c92634607570df651227ec0563c4682087e04b9551"), looks := false }, kinds := [], alts := [], laidByText := true, laidKinds := [.data, .data], laidTests := true, laidLooks := .later }
def SinkBlanksCardSaid : Prop := Claim7.holds Tryd.pinned (.plain (OpenSpec.ofChange sinkBlanksSpec)) sinkBlanksCard

/-- THE TIED CARD OF 'colophonlaw08.WholeNames'. -/
def wholeNamesCard : Claim7 := { stood := { row := wholeNamesRow, standIns := [], harness := (true, "eb7a383311c01a96d1a591c92634607570df651227ec0563c4682087e04b9551"), looks := false }, kinds := [], alts := [], laidByText := true, laidKinds := [.data, .data], laidTests := true, laidLooks := .later }
def WholeNamesCardSaid : Prop := Claim7.holds Tryd.pinned (.plain (OpenSpec.ofChange wholeNamesSpec)) wholeNamesCard

/-- THE TIED CARD OF 'colophonlaw08.WholePrints'. -/
def wholePrintsCard : Claim7 := { stood := { row := wholePrintsRow, standIns := [], harness := (true, "eb7a383311c01a96d1a591c92634607570df651227ec0563c4682087e04b9551"), looks := false }, kinds := [], alts := [], laidByText := true, laidKinds := [.data, .data], laidTests := true, laidLooks := .later }
def WholePrintsCardSaid : Prop := Claim7.holds Tryd.pinned (.plain (OpenSpec.ofChange wholePrintsSpec)) wholePrintsCard

/-- THE TIED CARD OF 'colophonlaw08.WholeLines'. -/
def wholeLinesCard : Claim7 := { stood := { row := wholeLinesRow, standIns := [], harness := (true, "eb7a383311c01a96d1a591c92634607570df651227ec0563c4682087e04b9551"), looks := false }, kinds := [], alts := [], laidByText := true, laidKinds := [.data, .data], laidTests := true, laidLooks := .later }
def WholeLinesCardSaid : Prop := Claim7.holds Tryd.pinned (.plain (OpenSpec.ofChange wholeLinesSpec)) wholeLinesCard

/-- THE TIED CARD OF 'colophonlaw08.WholeFills'. -/
def wholeFillsCard : Claim7 := { stood := { row := wholeFillsRow, standIns := [], harness := (true, "eb7a383311c01a96d1a591c92634607570df651227ec0563c4682087e04b9551"), looks := false }, kinds := [], alts := [], laidByText := true, laidKinds := [.data, .data], laidTests := true, laidLooks := .later }
def WholeFillsCardSaid : Prop := Claim7.holds Tryd.pinned (.plain (OpenSpec.ofChange wholeFillsSpec)) wholeFillsCard

/-- THE TIED CARD OF 'colophonlaw08.WholeIdle'. -/
def wholeIdleCard : Claim7 := { stood := { row := wholeIdleRow, standIns := [], harness := (true, "eb7a383311c01a96d1a591c92634607570df651227ec0563c4682087e04b9551"), looks := false }, kinds := [], alts := [], laidByText := true, laidKinds := [.data, .data], laidTests := true, laidLooks := .later }
def WholeIdleCardSaid : Prop := Claim7.holds Tryd.pinned (.plain (OpenSpec.ofChange wholeIdleSpec)) wholeIdleCard

/-- THE SECOND FORM's CARD OF 'colophonlaw06.SinkNames'. -/
def sinkNamesUptoCard : Claim7 := { stood := { row := sinkNamesUptoRow, standIns := [], harness := (true, "eb7a383311c01a96d1a591c92634607570df651227ec0563c4682087e04b9551"), looks := false }, kinds := [], alts := [], laidByText := true, laidKinds := [.data, .data], laidTests := true, laidLooks := .later }
def SinkNamesUptoCardSaid : Prop := Claim7.holds Tryd.pinned (.plain (OpenSpec.upto sinkNamesSpec)) sinkNamesUptoCard

/-- THE SECOND FORM's CARD OF 'colophonlaw06.SinkPlays'. -/
def sinkPlaysUptoCard : Claim7 := { stood := { row := sinkPlaysUptoRow, standIns := [], harness := (true, "eb7a383311c01a96d1a591c92634607570df651227ec0563c4682087e04b9551"), looks := false }, kinds := [], alts := [], laidByText := true, laidKinds := [.data, .data], laidTests := true, laidLooks := .later }
def SinkPlaysUptoCardSaid : Prop := Claim7.holds Tryd.pinned (.plain (OpenSpec.upto sinkPlaysSpec)) sinkPlaysUptoCard

/-- THE SECOND FORM's CARD OF 'colophonlaw06.SinkTakes'. -/
def sinkTakesUptoCard : Claim7 := { stood := { row := sinkTakesUptoRow, standIns := [], harness := (true, "eb7a383311c01a96d1a591c92634607570df651227ec0563c4682087e04b9551"), looks := false }, kinds := [], alts := [], laidByText := true, laidKinds := [.data, .data], laidTests := true, laidLooks := .later }
def SinkTakesUptoCardSaid : Prop := Claim7.holds Tryd.pinned (.plain (OpenSpec.upto sinkTakesSpec)) sinkTakesUptoCard

/-- THE SECOND FORM's CARD OF 'colophonlaw06.SinkBlanks'. -/
def sinkBlanksUptoCard : Claim7 := { stood := { row := sinkBlanksUptoRow, standIns := [], harness := (true, "eb7a383311c01a96d1a591c92634607570df651227ec0563c4682087e04b9551"), looks := false }, kinds := [], alts := [], laidByText := true, laidKinds := [.data, .data], laidTests := true, laidLooks := .later }
def SinkBlanksUptoCardSaid : Prop := Claim7.holds Tryd.pinned (.plain (OpenSpec.upto sinkBlanksSpec)) sinkBlanksUptoCard

/-- THE SECOND FORM's CARD OF 'colophonlaw08.WholeNames'. -/
def wholeNamesUptoCard : Claim7 := { stood := { row := wholeNamesUptoRow, standIns := [], harness := (true, "eb7a383311c01a96d1a591c92634607570df651227ec0563c4682087e04b9551"), looks := false }, kinds := [], alts := [], laidByText := true, laidKinds := [.data, .data], laidTests := true, laidLooks := .later }
def WholeNamesUptoCardSaid : Prop := Claim7.holds Tryd.pinned (.plain (OpenSpec.upto wholeNamesSpec)) wholeNamesUptoCard

/-- THE SECOND FORM's CARD OF 'colophonlaw08.WholePrints'. -/
def wholePrintsUptoCard : Claim7 := { stood := { row := wholePrintsUptoRow, standIns := [], harness := (true, "eb7a383311c01a96d1a591c92634607570df651227ec0563c4682087e04b9551"), looks := false }, kinds := [], alts := [], laidByText := true, laidKinds := [.data, .data], laidTests := true, laidLooks := .later }
def WholePrintsUptoCardSaid : Prop := Claim7.holds Tryd.pinned (.plain (OpenSpec.upto wholePrintsSpec)) wholePrintsUptoCard

/-- THE SECOND FORM's CARD OF 'colophonlaw08.WholeLines'. -/
def wholeLinesUptoCard : Claim7 := { stood := { row := wholeLinesUptoRow, standIns := [], harness := (true, "eb7a383311c01a96d1a591c92634607570df651227ec0563c4682087e04b9551"), looks := false }, kinds := [], alts := [], laidByText := true, laidKinds := [.data, .data], laidTests := true, laidLooks := .later }
def WholeLinesUptoCardSaid : Prop := Claim7.holds Tryd.pinned (.plain (OpenSpec.upto wholeLinesSpec)) wholeLinesUptoCard

/-- THE SECOND FORM's CARD OF 'colophonlaw08.WholeFills'. -/
def wholeFillsUptoCard : Claim7 := { stood := { row := wholeFillsUptoRow, standIns := [], harness := (true, "eb7a383311c01a96d1a591c92634607570df651227ec0563c4682087e04b9551"), looks := false }, kinds := [], alts := [], laidByText := true, laidKinds := [.data, .data], laidTests := true, laidLooks := .later }
def WholeFillsUptoCardSaid : Prop := Claim7.holds Tryd.pinned (.plain (OpenSpec.upto wholeFillsSpec)) wholeFillsUptoCard

/-- THE SECOND FORM's CARD OF 'colophonlaw08.WholeIdle'. -/
def wholeIdleUptoCard : Claim7 := { stood := { row := wholeIdleUptoRow, standIns := [], harness := (true, "eb7a383311c01a96d1a591c92634607570df651227ec0563c4682087e04b9551"), looks := false }, kinds := [], alts := [], laidByText := true, laidKinds := [.data, .data], laidTests := true, laidLooks := .later }
def WholeIdleUptoCardSaid : Prop := Claim7.holds Tryd.pinned (.plain (OpenSpec.upto wholeIdleSpec)) wholeIdleUptoCard
end Rows
end Go.Proofs.YtphcmbdmkhmfbaaDoor
