/-
  DERIVED. GIVEN WITH THE SEED: THE CARDS: each row of YtmcemnfjddoejaaGreatDoorRows.lean that lists a variable, with what it lists TIED to the program's text (the seventh form; the later family's looks); each row that meets fmt, with fmt's text TOLD by the authors' own Lean function (tested against real Go, not proved from fmt's source: count such statements apart). THE CARD IS WHAT COUNTS. Prove the row's statement (the work); the ties are given (YtmcemnfjddoejaaGreatDoorTie.lean); close each card by the builder's one call (the guide's Derived/Test/ToyasCard.lean, 'card_holds'). Laid BY PROGRAM, IN A SANDBOX (cutbox-door.mjs). By AI agents, Wed Nov 11 2026. No macro, syntax, notation, axiom, sorry.
-/
import Derived.Test.YtmcemnfjddoejaaGreatDoorRows
import GoSem.ClaimSeven
namespace Go.Proofs.YtmcemnfjddoejaaGreatDoor
namespace Rows

/-- THE TIED CARD OF 'stanzalaw23.DeskRuns'. -/
def deskRunsCard : Claim7 := { stood := { row := deskRunsRow, standIns := [], harness := (true, "42234ae7fb789853ae17a7a9131b80f537cd09e30e5c61bf4799587751e49dfe"), looks := true }, kinds := [], alts := [], laidByText := true, laidKinds := [.data], laidTests := true, laidLooks := .later }
def DeskRunsCardSaid : Prop := Claim7.holds Tryz.pinned (.plain (OpenSpec.ofChange deskRunsSpec)) deskRunsCard

/-- THE TIED CARD OF 'stanzalaw23.DeskFaults'. -/
def deskFaultsCard : Claim7 := { stood := { row := deskFaultsRow, standIns := [], harness := (true, "42234ae7fb789853ae17a7a9131b80f537cd09e30e5c61bf4799587751e49dfe"), looks := true }, kinds := [], alts := [], laidByText := true, laidKinds := [.data], laidTests := true, laidLooks := .later }
def DeskFaultsCardSaid : Prop := Claim7.holds Tryz.pinned (.plain (OpenSpec.ofChange deskFaultsSpec)) deskFaultsCard

/-- THE TIED CARD OF 'stanzalaw23.DeskPrefix'. -/
def deskPrefixCard : Claim7 := { stood := { row := deskPrefixRow, standIns := [], harness := (true, "42234ae7fb789853ae17a7a9131b80f537cd09e30e5c61bf4799587751e49dfe"), looks := true }, kinds := [], alts := [], laidByText := true, laidKinds := [.data], laidTests := true, laidLooks := .later }
def DeskPrefixCardSaid : Prop := Claim7.holds Tryz.pinned (.plain (OpenSpec.ofChange deskPrefixSpec)) deskPrefixCard

/-- THE TIED CARD OF 'stanzalaw23.DeskAsks'. -/
def deskAsksCard : Claim7 := { stood := { row := deskAsksRow, standIns := [], harness := (true, "42234ae7fb789853ae17a7a9131b80f537cd09e30e5c61bf4799587751e49dfe"), looks := true }, kinds := [], alts := [], laidByText := true, laidKinds := [.data], laidTests := true, laidLooks := .later }
def DeskAsksCardSaid : Prop := Claim7.holds Tryz.pinned (.plain (OpenSpec.ofChange deskAsksSpec)) deskAsksCard

/-- THE SECOND FORM's CARD OF 'stanzalaw23.DeskRuns'. -/
def deskRunsUptoCard : Claim7 := { stood := { row := deskRunsUptoRow, standIns := [], harness := (true, "42234ae7fb789853ae17a7a9131b80f537cd09e30e5c61bf4799587751e49dfe"), looks := true }, kinds := [], alts := [], laidByText := true, laidKinds := [.data], laidTests := true, laidLooks := .later }
def DeskRunsUptoCardSaid : Prop := Claim7.holds Tryz.pinned (.plain (OpenSpec.upto deskRunsSpec)) deskRunsUptoCard

/-- THE SECOND FORM's CARD OF 'stanzalaw23.DeskFaults'. -/
def deskFaultsUptoCard : Claim7 := { stood := { row := deskFaultsUptoRow, standIns := [], harness := (true, "42234ae7fb789853ae17a7a9131b80f537cd09e30e5c61bf4799587751e49dfe"), looks := true }, kinds := [], alts := [], laidByText := true, laidKinds := [.data], laidTests := true, laidLooks := .later }
def DeskFaultsUptoCardSaid : Prop := Claim7.holds Tryz.pinned (.plain (OpenSpec.upto deskFaultsSpec)) deskFaultsUptoCard

/-- THE SECOND FORM's CARD OF 'stanzalaw23.DeskPrefix'. -/
def deskPrefixUptoCard : Claim7 := { stood := { row := deskPrefixUptoRow, standIns := [], harness := (true, "42234ae7fb789853ae17a7a9131b80f537cd09e30e5c61bf4799587751e49dfe"), looks := true }, kinds := [], alts := [], laidByText := true, laidKinds := [.data], laidTests := true, laidLooks := .later }
def DeskPrefixUptoCardSaid : Prop := Claim7.holds Tryz.pinned (.plain (OpenSpec.upto deskPrefixSpec)) deskPrefixUptoCard

/-- THE SECOND FORM's CARD OF 'stanzalaw23.DeskAsks'. -/
def deskAsksUptoCard : Claim7 := { stood := { row := deskAsksUptoRow, standIns := [], harness := (true, "42234ae7fb789853ae17a7a9131b80f537cd09e30e5c61bf4799587751e49dfe"), looks := true }, kinds := [], alts := [], laidByText := true, laidKinds := [.data], laidTests := true, laidLooks := .later }
def DeskAsksUptoCardSaid : Prop := Claim7.holds Tryz.pinned (.plain (OpenSpec.upto deskAsksSpec)) deskAsksUptoCard
end Rows
end Go.Proofs.YtmcemnfjddoejaaGreatDoor
