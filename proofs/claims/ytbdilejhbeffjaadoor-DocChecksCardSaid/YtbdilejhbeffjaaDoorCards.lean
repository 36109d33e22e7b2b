/-
  DERIVED. GIVEN WITH THE SEED: THE CARDS: each row of YtbdilejhbeffjaaDoorRows.lean that lists a variable, with what it lists TIED to the program's text (the seventh form; the later family's looks); each row that meets fmt, with fmt's text TOLD by the authors' own Lean function (tested against real Go, not proved from fmt's source: count such statements apart). THE CARD IS WHAT COUNTS. Prove the row's statement (the work); the ties are given (YtbdilejhbeffjaaDoorTie.lean); close each card by the builder's one call (the guide's Derived/Test/ToyasCard.lean, 'card_holds'). Laid BY PROGRAM, IN A SANDBOX (cutbox-door.mjs). By AI agents, Wed Nov 11 2026. No macro, syntax, notation, axiom, sorry.
-/
import Derived.Test.YtbdilejhbeffjaaDoorRows
import GoSem.ClaimSeven
namespace Go.Proofs.YtbdilejhbeffjaaDoor
namespace Rows

/-- THE TIED CARD OF 'colophonlaw09.StreamNames'. -/
def streamNamesCard : Claim7 := { stood := { row := streamNamesRow, standIns := [], harness := (true, "43b9df23338763a5b451bfc4ad12b1e095b08340bfaa271e0aaa7d4daa5862b8"), looks := true }, kinds := [], alts := [], laidByText := true, laidKinds := [.data, .data], laidTests := true, laidLooks := .later }
def StreamNamesCardSaid : Prop := Claim7.holds Tryd.pinned (.plain (OpenSpec.ofChange streamNamesSpec)) streamNamesCard

/-- THE TIED CARD OF 'colophonlaw09.StreamSoon'. -/
def streamSoonCard : Claim7 := { stood := { row := streamSoonRow, standIns := [], harness := (true, "43b9df23338763a5b451bfc4ad12b1e095b08340bfaa271e0aaa7d4daa5862b8"), looks := true }, kinds := [], alts := [], laidByText := true, laidKinds := [.data, .data], laidTests := true, laidLooks := .later }
def StreamSoonCardSaid : Prop := Claim7.holds Tryd.pinned (.plain (OpenSpec.ofChange streamSoonSpec)) streamSoonCard

/-- THE TIED CARD OF 'colophonlaw09.StreamNil'. -/
def streamNilCard : Claim7 := { stood := { row := streamNilRow, standIns := [], harness := (true, "43b9df23338763a5b451bfc4ad12b1e095b08340bfaa271e0aaa7d4daa5862b8"), looks := true }, kinds := [], alts := [], laidByText := true, laidKinds := [.data, .data], laidTests := true, laidLooks := .later }
def StreamNilCardSaid : Prop := Claim7.holds Tryd.pinned (.plain (OpenSpec.ofChange streamNilSpec)) streamNilCard

/-- THE TIED CARD OF 'colophonlaw09.StreamWhole'. -/
def streamWholeCard : Claim7 := { stood := { row := streamWholeRow, standIns := [], harness := (true, "43b9df23338763a5b451bfc4ad12b1e095b08340bfaa271e0aaa7d4daa5862b8"), looks := true }, kinds := [], alts := [], laidByText := true, laidKinds := [.data, .data], laidTests := true, laidLooks := .later }
def StreamWholeCardSaid : Prop := Claim7.holds Tryd.pinned (.plain (OpenSpec.ofChange streamWholeSpec)) streamWholeCard

/-- THE TIED CARD OF 'colophonlaw09.StreamBegins'. -/
def streamBeginsCard : Claim7 := { stood := { row := streamBeginsRow, standIns := [], harness := (true, "43b9df23338763a5b451bfc4ad12b1e095b08340bfaa271e0aaa7d4daa5862b8"), looks := true }, kinds := [], alts := [], laidByText := true, laidKinds := [.data, .data], laidTests := true, laidLooks := .later }
def StreamBeginsCardSaid : Prop := Claim7.holds Tryd.pinned (.plain (OpenSpec.ofChange streamBeginsSpec)) streamBeginsCard

/-- THE TIED CARD OF 'colophonlaw07.DocNames'. -/
def docNamesCard : Claim7 := { stood := { row := docNamesRow, standIns := [], harness := (true, "43b9df23338763a5b451bfc4ad12b1e095b08340bfaa271e0aaa7d4daa5862b8"), looks := true }, kinds := [], alts := [], laidByText := true, laidKinds := [.data, .data, .data, .sentinel, .sentinel, .data], laidTests := true, laidLooks := .later }
def DocNamesCardSaid : Prop := Claim7.holds Tryd.pinned (.plain (OpenSpec.ofChange docNamesSpec)) docNamesCard

/-- THE TIED CARD OF 'colophonlaw07.DocChecks'. -/
def docChecksCard : Claim7 := { stood := { row := docChecksRow, standIns := [], harness := (true, "43b9df23338763a5b451bfc4ad12b1e095b08340bfaa271e0aaa7d4daa5862b8"), looks := true }, kinds := [], alts := [], laidByText := true, laidKinds := [.data, .data, .data, .sentinel, .sentinel, .data], laidTests := true, laidLooks := .later }
def DocChecksCardSaid : Prop := Claim7.holds Tryd.pinned (.plain (OpenSpec.ofChange docChecksSpec)) docChecksCard

/-- THE TIED CARD OF 'colophonlaw07.DocParses'. -/
def docParsesCard : Claim7 := { stood := { row := docParsesRow, standIns := [], harness := (true, "43b9df23338763a5b451bfc4ad12b1e095b08340bfaa271e0aaa7d4daa5862b8"), looks := true }, kinds := [], alts := [], laidByText := true, laidKinds := [.data, .data, .data, .sentinel, .sentinel, .data], laidTests := true, laidLooks := .later }
def DocParsesCardSaid : Prop := Claim7.holds Tryd.pinned (.plain (OpenSpec.ofChange docParsesSpec)) docParsesCard

/-- THE TIED CARD OF 'colophonlaw07.DocBack'. -/
def docBackCard : Claim7 := { stood := { row := docBackRow, standIns := [], harness := (true, "43b9df23338763a5b451bfc4ad12b1e095b08340bfaa271e0aaa7d4daa5862b8"), looks := true }, kinds := [], alts := [], laidByText := true, laidKinds := [.data, .data, .data, .sentinel, .sentinel, .data], laidTests := true, laidLooks := .later }
def DocBackCardSaid : Prop := Claim7.holds Tryd.pinned (.plain (OpenSpec.ofChange docBackSpec)) docBackCard

/-- THE TIED CARD OF 'colophonlaw07.DocReads'. -/
def docReadsCard : Claim7 := { stood := { row := docReadsRow, standIns := [], harness := (true, "43b9df23338763a5b451bfc4ad12b1e095b08340bfaa271e0aaa7d4daa5862b8"), looks := true }, kinds := [], alts := [], laidByText := true, laidKinds := [.data, .data, .data, .sentinel, .sentinel, .data], laidTests := true, laidLooks := .later }
def DocReadsCardSaid : Prop := Claim7.holds Tryd.pinned (.plain (OpenSpec.ofChange docReadsSpec)) docReadsCard

/-- THE SECOND FORM's CARD OF 'colophonlaw09.StreamNames'. -/
def streamNamesUptoCard : Claim7 := { stood := { row := streamNamesUptoRow, standIns := [], harness := (true, "43b9df23338763a5b451bfc4ad12b1e095b08340bfaa271e0aaa7d4daa5862b8"), looks := true }, kinds := [], alts := [], laidByText := true, laidKinds := [.data, .data], laidTests := true, laidLooks := .later }
def StreamNamesUptoCardSaid : Prop := Claim7.holds Tryd.pinned (.plain (OpenSpec.upto streamNamesSpec)) streamNamesUptoCard

/-- THE SECOND FORM's CARD OF 'colophonlaw09.StreamSoon'. -/
def streamSoonUptoCard : Claim7 := { stood := { row := streamSoonUptoRow, standIns := [], harness := (true, "43b9df23338763a5b451bfc4ad12b1e095b08340bfaa271e0aaa7d4daa5862b8"), looks := true }, kinds := [], alts := [], laidByText := true, laidKinds := [.data, .data], laidTests := true, laidLooks := .later }
def StreamSoonUptoCardSaid : Prop := Claim7.holds Tryd.pinned (.plain (OpenSpec.upto streamSoonSpec)) streamSoonUptoCard

/-- THE SECOND FORM's CARD OF 'colophonlaw09.StreamNil'. -/
def streamNilUptoCard : Claim7 := { stood := { row := streamNilUptoRow, standIns := [], harness := (true, "43b9df23338763a5b451bfc4ad12b1e095b08340bfaa271e0aaa7d4daa5862b8"), looks := true }, kinds := [], alts := [], laidByText := true, laidKinds := [.data, .data], laidTests := true, laidLooks := .later }
def StreamNilUptoCardSaid : Prop := Claim7.holds Tryd.pinned (.plain (OpenSpec.upto streamNilSpec)) streamNilUptoCard

/-- THE SECOND FORM's CARD OF 'colophonlaw09.StreamWhole'. -/
def streamWholeUptoCard : Claim7 := { stood := { row := streamWholeUptoRow, standIns := [], harness := (true, "43b9df23338763a5b451bfc4ad12b1e095b08340bfaa271e0aaa7d4daa5862b8"), looks := true }, kinds := [], alts := [], laidByText := true, laidKinds := [.data, .data], laidTests := true, laidLooks := .later }
def StreamWholeUptoCardSaid : Prop := Claim7.holds Tryd.pinned (.plain (OpenSpec.upto streamWholeSpec)) streamWholeUptoCard

/-- THE SECOND FORM's CARD OF 'colophonlaw09.StreamBegins'. -/
def streamBeginsUptoCard : Claim7 := { stood := { row := streamBeginsUptoRow, standIns := [], harness := (true, "43b9df23338763a5b451bfc4ad12b1e095b08340bfaa271e0aaa7d4daa5862b8"), looks := true }, kinds := [], alts := [], laidByText := true, laidKinds := [.data, .data], laidTests := true, laidLooks := .later }
def StreamBeginsUptoCardSaid : Prop := Claim7.holds Tryd.pinned (.plain (OpenSpec.upto streamBeginsSpec)) streamBeginsUptoCard

/-- THE SECOND FORM's CARD OF 'colophonlaw07.DocNames'. -/
def docNamesUptoCard : Claim7 := { stood := { row := docNamesUptoRow, standIns := [], harness := (true, "43b9df23338763a5b451bfc4ad12b1e095b08340bfaa271e0aaa7d4daa5862b8"), looks := true }, kinds := [], alts := [], laidByText := true, laidKinds := [.data, .data, .data, .sentinel, .sentinel, .data], laidTests := true, laidLooks := .later }
def DocNamesUptoCardSaid : Prop := Claim7.holds Tryd.pinned (.plain (OpenSpec.upto docNamesSpec)) docNamesUptoCard

/-- THE SECOND FORM's CARD OF 'colophonlaw07.DocChecks'. -/
def docChecksUptoCard : Claim7 := { stood := { row := docChecksUptoRow, standIns := [], harness := (true, "43b9df23338763a5b451bfc4ad12b1e095b08340bfaa271e0aaa7d4daa5862b8"), looks := true }, kinds := [], alts := [], laidByText := true, laidKinds := [.data, .data, .data, .sentinel, .sentinel, .data], laidTests := true, laidLooks := .later }
def DocChecksUptoCardSaid : Prop := Claim7.holds Tryd.pinned (.plain (OpenSpec.upto docChecksSpec)) docChecksUptoCard

/-- THE SECOND FORM's CARD OF 'colophonlaw07.DocParses'. -/
def docParsesUptoCard : Claim7 := { stood := { row := docParsesUptoRow, standIns := [], harness := (true, "43b9df23338763a5b451bfc4ad12b1e095b08340bfaa271e0aaa7d4daa5862b8"), looks := true }, kinds := [], alts := [], laidByText := true, laidKinds := [.data, .data, .data, .sentinel, .sentinel, .data], laidTests := true, laidLooks := .later }
def DocParsesUptoCardSaid : Prop := Claim7.holds Tryd.pinned (.plain (OpenSpec.upto docParsesSpec)) docParsesUptoCard

/-- THE SECOND FORM's CARD OF 'colophonlaw07.DocBack'. -/
def docBackUptoCard : Claim7 := { stood := { row := docBackUptoRow, standIns := [], harness := (true, "43b9df23338763a5b451bfc4ad12b1e095b08340bfaa271e0aaa7d4daa5862b8"), looks := true }, kinds := [], alts := [], laidByText := true, laidKinds := [.data, .data, .data, .sentinel, .sentinel, .data], laidTests := true, laidLooks := .later }
def DocBackUptoCardSaid : Prop := Claim7.holds Tryd.pinned (.plain (OpenSpec.upto docBackSpec)) docBackUptoCard

/-- THE SECOND FORM's CARD OF 'colophonlaw07.DocReads'. -/
def docReadsUptoCard : Claim7 := { stood := { row := docReadsUptoRow, standIns := [], harness := (true, "43b9df23338763a5b451bfc4ad12b1e095b08340bfaa271e0aaa7d4daa5862b8"), looks := true }, kinds := [], alts := [], laidByText := true, laidKinds := [.data, .data, .data, .sentinel, .sentinel, .data], laidTests := true, laidLooks := .later }
def DocReadsUptoCardSaid : Prop := Claim7.holds Tryd.pinned (.plain (OpenSpec.upto docReadsSpec)) docReadsUptoCard
end Rows
end Go.Proofs.YtbdilejhbeffjaaDoor
