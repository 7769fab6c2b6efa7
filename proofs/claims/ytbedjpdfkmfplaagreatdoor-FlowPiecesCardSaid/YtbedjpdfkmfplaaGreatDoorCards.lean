/-
  DERIVED. GIVEN WITH THE SEED: THE CARDS: each row of YtbedjpdfkmfplaaGreatDoorRows.lean that lists a variable, with what it lists TIED to the program's text (the seventh form; the later family's looks); each row that meets fmt, with fmt's text TOLD by the authors' own Lean function (tested against real Go, not proved from fmt's source: count such statements apart). THE CARD IS WHAT COUNTS. Prove the row's statement (the work); the ties are given (YtbedjpdfkmfplaaGreatDoorTie.lean); close each card by the builder's one call (the guide's Derived/Test/ToyasCard.lean, 'card_holds'). Laid BY PROGRAM, IN A SANDBOX (cutbox-door.mjs). By AI agents, Wed Nov 11 2026. No macro, syntax, notation, axiom, sorry.
-/
import Derived.Test.YtbedjpdfkmfplaaGreatDoorRows
import GoSem.ClaimSeven
namespace Go.Proofs.YtbedjpdfkmfplaaGreatDoor
namespace Rows

/-- THE TIED CARD OF 'stanzalaw21.FlowPieces'. -/
def flowPiecesCard : Claim7 := { stood := { row := flowPiecesRow, standIns := [], harness := (true, "390005313ee4e5f87244063ae9e8e8368e8b571bfbe2212477a09ce04003aeab"), looks := true }, kinds := [], alts := [], laidByText := true, laidKinds := [.data], laidTests := true, laidLooks := .later }
def FlowPiecesCardSaid : Prop := Claim7.holds Tryz.pinned (.plain (OpenSpec.ofChange flowPiecesSpec)) flowPiecesCard

/-- THE TIED CARD OF 'stanzalaw21.FlowUndoes'. -/
def flowUndoesCard : Claim7 := { stood := { row := flowUndoesRow, standIns := [], harness := (true, "390005313ee4e5f87244063ae9e8e8368e8b571bfbe2212477a09ce04003aeab"), looks := true }, kinds := [], alts := [], laidByText := true, laidKinds := [.data], laidTests := true, laidLooks := .later }
def FlowUndoesCardSaid : Prop := Claim7.holds Tryz.pinned (.plain (OpenSpec.ofChange flowUndoesSpec)) flowUndoesCard

/-- THE TIED CARD OF 'stanzalaw21.FlowOwn'. -/
def flowOwnCard : Claim7 := { stood := { row := flowOwnRow, standIns := [], harness := (true, "390005313ee4e5f87244063ae9e8e8368e8b571bfbe2212477a09ce04003aeab"), looks := true }, kinds := [], alts := [], laidByText := true, laidKinds := [.data], laidTests := true, laidLooks := .later }
def FlowOwnCardSaid : Prop := Claim7.holds Tryz.pinned (.plain (OpenSpec.ofChange flowOwnSpec)) flowOwnCard

/-- THE TIED CARD OF 'stanzalaw21.FlowNew'. -/
def flowNewCard : Claim7 := { stood := { row := flowNewRow, standIns := [], harness := (true, "390005313ee4e5f87244063ae9e8e8368e8b571bfbe2212477a09ce04003aeab"), looks := true }, kinds := [], alts := [], laidByText := true, laidKinds := [.data], laidTests := true, laidLooks := .later }
def FlowNewCardSaid : Prop := Claim7.holds Tryz.pinned (.plain (OpenSpec.ofChange flowNewSpec)) flowNewCard

/-- THE TIED CARD OF 'stanzalaw21.FlowChanges'. -/
def flowChangesCard : Claim7 := { stood := { row := flowChangesRow, standIns := [], harness := (true, "390005313ee4e5f87244063ae9e8e8368e8b571bfbe2212477a09ce04003aeab"), looks := true }, kinds := [], alts := [], laidByText := true, laidKinds := [.data], laidTests := true, laidLooks := .later }
def FlowChangesCardSaid : Prop := Claim7.holds Tryz.pinned (.plain (OpenSpec.ofChange flowChangesSpec)) flowChangesCard

/-- THE SECOND FORM's CARD OF 'stanzalaw21.FlowPieces'. -/
def flowPiecesUptoCard : Claim7 := { stood := { row := flowPiecesUptoRow, standIns := [], harness := (true, "390005313ee4e5f87244063ae9e8e8368e8b571bfbe2212477a09ce04003aeab"), looks := true }, kinds := [], alts := [], laidByText := true, laidKinds := [.data], laidTests := true, laidLooks := .later }
def FlowPiecesUptoCardSaid : Prop := Claim7.holds Tryz.pinned (.plain (OpenSpec.upto flowPiecesSpec)) flowPiecesUptoCard

/-- THE SECOND FORM's CARD OF 'stanzalaw21.FlowUndoes'. -/
def flowUndoesUptoCard : Claim7 := { stood := { row := flowUndoesUptoRow, standIns := [], harness := (true, "390005313ee4e5f87244063ae9e8e8368e8b571bfbe2212477a09ce04003aeab"), looks := true }, kinds := [], alts := [], laidByText := true, laidKinds := [.data], laidTests := true, laidLooks := .later }
def FlowUndoesUptoCardSaid : Prop := Claim7.holds Tryz.pinned (.plain (OpenSpec.upto flowUndoesSpec)) flowUndoesUptoCard

/-- THE SECOND FORM's CARD OF 'stanzalaw21.FlowOwn'. -/
def flowOwnUptoCard : Claim7 := { stood := { row := flowOwnUptoRow, standIns := [], harness := (true, "390005313ee4e5f87244063ae9e8e8368e8b571bfbe2212477a09ce04003aeab"), looks := true }, kinds := [], alts := [], laidByText := true, laidKinds := [.data], laidTests := true, laidLooks := .later }
def FlowOwnUptoCardSaid : Prop := Claim7.holds Tryz.pinned (.plain (OpenSpec.upto flowOwnSpec)) flowOwnUptoCard

/-- THE SECOND FORM's CARD OF 'stanzalaw21.FlowNew'. -/
def flowNewUptoCard : Claim7 := { stood := { row := flowNewUptoRow, standIns := [], harness := (true, "390005313ee4e5f87244063ae9e8e8368e8b571bfbe2212477a09ce04003aeab"), looks := true }, kinds := [], alts := [], laidByText := true, laidKinds := [.data], laidTests := true, laidLooks := .later }
def FlowNewUptoCardSaid : Prop := Claim7.holds Tryz.pinned (.plain (OpenSpec.upto flowNewSpec)) flowNewUptoCard

/-- THE SECOND FORM's CARD OF 'stanzalaw21.FlowChanges'. -/
def flowChangesUptoCard : Claim7 := { stood := { row := flowChangesUptoRow, standIns := [], harness := (true, "390005313ee4e5f87244063ae9e8e8368e8b571bfbe2212477a09ce04003aeab"), looks := true }, kinds := [], alts := [], laidByText := true, laidKinds := [.data], laidTests := true, laidLooks := .later }
def FlowChangesUptoCardSaid : Prop := Claim7.holds Tryz.pinned (.plain (OpenSpec.upto flowChangesSpec)) flowChangesUptoCard
end Rows
end Go.Proofs.YtbedjpdfkmfplaaGreatDoor
