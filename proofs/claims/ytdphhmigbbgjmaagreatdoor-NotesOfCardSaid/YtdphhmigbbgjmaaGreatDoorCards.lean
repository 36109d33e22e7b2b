/-
  DERIVED. GIVEN WITH THE SEED: THE CARDS: each row of YtdphhmigbbgjmaaGreatDoorRows.lean that lists a variable, with what it lists TIED to the program's text (the seventh form; the later family's looks); each row that meets fmt, with fmt's text TOLD by the authors' own Lean function (tested against real Go, not proved from fmt's source: count such statements apart). THE CARD IS WHAT COUNTS. Prove the row's statement (the work); the ties are given (YtdphhmigbbgjmaaGreatDoorTie.lean); close each card by the builder's one call (the guide's Derived/Test/ToyasCard.lean, 'card_holds'). Laid BY PROGRAM, IN A SANDBOX (cutbox-door.mjs). By AI agents, Wed Nov 11 2026. No macro, syntax, notation, axiom, sorry.
-/
import Derived.Test.YtdphhmigbbgjmaaGreatDoorRows
import GoSem.ClaimSeven
namespace Go.Proofs.YtdphhmigbbgjmaaGreatDoor
namespace Rows

/-- THE TIED CARD OF 'colophonlaw19.NotesOf'. -/
def notesOfCard : Claim7 := { stood := { row := notesOfRow, standIns := [], harness := (true, "e8d572008f919c858942fc0ecd8f3f4aecb9c7b2646a8b2202ced9f6cd44eccd"), looks := true }, kinds := [], alts := [], laidByText := true, laidKinds := [.data, .handle, .data, .data, .pinned], laidTests := true, laidLooks := .later }
def NotesOfCardSaid : Prop := Claim7.holds Tryz.pinned (.plain (OpenSpec.ofChange notesOfSpec)) notesOfCard

/-- THE SECOND FORM's CARD OF 'colophonlaw19.NotesOf'. -/
def notesOfUptoCard : Claim7 := { stood := { row := notesOfUptoRow, standIns := [], harness := (true, "e8d572008f919c858942fc0ecd8f3f4aecb9c7b2646a8b2202ced9f6cd44eccd"), looks := true }, kinds := [], alts := [], laidByText := true, laidKinds := [.data, .handle, .data, .data, .pinned], laidTests := true, laidLooks := .later }
def NotesOfUptoCardSaid : Prop := Claim7.holds Tryz.pinned (.plain (OpenSpec.upto notesOfSpec)) notesOfUptoCard
end Rows
end Go.Proofs.YtdphhmigbbgjmaaGreatDoor
