/-
  DERIVED. GIVEN WITH THE SEED: THE CARDS: each row of YtobbjfkfmdiklaaGreatDoorRows.lean that lists a variable, with what it lists TIED to the program's text (the seventh form; the later family's looks); each row that meets fmt, with fmt's text TOLD by the authors' own Lean function (tested against real Go, not proved from fmt's source: count such statements apart). THE CARD IS WHAT COUNTS. Prove the row's statement (the work); the ties are given (YtobbjfkfmdiklaaGreatDoorTie.lean); close each card by the builder's one call (the guide's Derived/Test/ToyasCard.lean, 'card_holds'). Laid BY PROGRAM, IN A SANDBOX (cutbox-door.mjs). By AI agents, Wed Nov 11 2026. No macro, syntax, notation, axiom, sorry.
-/
import Derived.Test.YtobbjfkfmdiklaaGreatDoorRows
import GoSem.ClaimSeven
namespace Go.Proofs.YtobbjfkfmdiklaaGreatDoor
namespace Rows

/-- THE TIED CARD OF 'stanzatop.TopEdges'. -/
def topEdgesCard : Claim7 := { stood := { row := topEdgesRow, standIns := [], harness := (true, "3e3d29ada0bb74905f67f638efdcd82efdbd45ba747a96e1e118373fc2e9000a"), looks := true }, kinds := [], alts := [], laidByText := true, laidKinds := [.data], laidTests := true, laidLooks := .later }
def TopEdgesCardSaid : Prop := Claim7.holds Tryz.pinned (.plain (OpenSpec.ofChange topEdgesSpec)) topEdgesCard

/-- THE TIED CARD OF 'stanzatop.TopLeast'. -/
def topLeastCard : Claim7 := { stood := { row := topLeastRow, standIns := [], harness := (true, "3e3d29ada0bb74905f67f638efdcd82efdbd45ba747a96e1e118373fc2e9000a"), looks := true }, kinds := [], alts := [], laidByText := true, laidKinds := [.data], laidTests := true, laidLooks := .later }
def TopLeastCardSaid : Prop := Claim7.holds Tryz.pinned (.plain (OpenSpec.ofChange topLeastSpec)) topLeastCard

/-- THE TIED CARD OF 'stanzatop.TopHostile'. -/
def topHostileCard : Claim7 := { stood := { row := topHostileRow, standIns := [], harness := (true, "3e3d29ada0bb74905f67f638efdcd82efdbd45ba747a96e1e118373fc2e9000a"), looks := true }, kinds := [], alts := [], laidByText := true, laidKinds := [.data], laidTests := true, laidLooks := .later }
def TopHostileCardSaid : Prop := Claim7.holds Tryz.pinned (.plain (OpenSpec.ofChange topHostileSpec)) topHostileCard

/-- THE SECOND FORM's CARD OF 'stanzatop.TopEdges'. -/
def topEdgesUptoCard : Claim7 := { stood := { row := topEdgesUptoRow, standIns := [], harness := (true, "3e3d29ada0bb74905f67f638efdcd82efdbd45ba747a96e1e118373fc2e9000a"), looks := true }, kinds := [], alts := [], laidByText := true, laidKinds := [.data], laidTests := true, laidLooks := .later }
def TopEdgesUptoCardSaid : Prop := Claim7.holds Tryz.pinned (.plain (OpenSpec.upto topEdgesSpec)) topEdgesUptoCard

/-- THE SECOND FORM's CARD OF 'stanzatop.TopLeast'. -/
def topLeastUptoCard : Claim7 := { stood := { row := topLeastUptoRow, standIns := [], harness := (true, "3e3d29ada0bb74905f67f638efdcd82efdbd45ba747a96e1e118373fc2e9000a"), looks := true }, kinds := [], alts := [], laidByText := true, laidKinds := [.data], laidTests := true, laidLooks := .later }
def TopLeastUptoCardSaid : Prop := Claim7.holds Tryz.pinned (.plain (OpenSpec.upto topLeastSpec)) topLeastUptoCard

/-- THE SECOND FORM's CARD OF 'stanzatop.TopHostile'. -/
def topHostileUptoCard : Claim7 := { stood := { row := topHostileUptoRow, standIns := [], harness := (true, "3e3d29ada0bb74905f67f638efdcd82efdbd45ba747a96e1e118373fc2e9000a"), looks := true }, kinds := [], alts := [], laidByText := true, laidKinds := [.data], laidTests := true, laidLooks := .later }
def TopHostileUptoCardSaid : Prop := Claim7.holds Tryz.pinned (.plain (OpenSpec.upto topHostileSpec)) topHostileUptoCard
end Rows
end Go.Proofs.YtobbjfkfmdiklaaGreatDoor
