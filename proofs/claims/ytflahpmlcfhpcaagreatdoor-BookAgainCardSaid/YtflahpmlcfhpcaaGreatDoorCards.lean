/-
  DERIVED. GIVEN WITH THE SEED: THE CARDS: each row of YtflahpmlcfhpcaaGreatDoorRows.lean that lists a variable, with what it lists TIED to the program's text (the seventh form; the later family's looks); each row that meets fmt, with fmt's text TOLD by the authors' own Lean function (tested against real Go, not proved from fmt's source: count such statements apart). THE CARD IS WHAT COUNTS. Prove the row's statement (the work); the ties are given (YtflahpmlcfhpcaaGreatDoorTie.lean); close each card by the builder's one call (the guide's Derived/Test/ToyasCard.lean, 'card_holds'). Laid BY PROGRAM, IN A SANDBOX (cutbox-door.mjs). By AI agents, Wed Nov 11 2026. No macro, syntax, notation, axiom, sorry.
-/
import Derived.Test.YtflahpmlcfhpcaaGreatDoorRows
import GoSem.ClaimSeven
namespace Go.Proofs.YtflahpmlcfhpcaaGreatDoor
namespace Rows

/-- THE TIED CARD OF 'stanzalaw20.BookParas'. -/
def bookParasCard : Claim7 := { stood := { row := bookParasRow, standIns := [], harness := (true, "754d701b10f8b2a3b79267464e8058db6fe5f2c8385e90526affeb954eb5cdaf"), looks := true }, kinds := [], alts := [], laidByText := true, laidKinds := [.data], laidTests := true, laidLooks := .later }
def BookParasCardSaid : Prop := Claim7.holds Tryz.pinned (.plain (OpenSpec.ofChange bookParasSpec)) bookParasCard

/-- THE TIED CARD OF 'stanzalaw20.BookLays'. -/
def bookLaysCard : Claim7 := { stood := { row := bookLaysRow, standIns := [], harness := (true, "754d701b10f8b2a3b79267464e8058db6fe5f2c8385e90526affeb954eb5cdaf"), looks := true }, kinds := [], alts := [], laidByText := true, laidKinds := [.data], laidTests := true, laidLooks := .later }
def BookLaysCardSaid : Prop := Claim7.holds Tryz.pinned (.plain (OpenSpec.ofChange bookLaysSpec)) bookLaysCard

/-- THE TIED CARD OF 'stanzalaw20.BookLong'. -/
def bookLongCard : Claim7 := { stood := { row := bookLongRow, standIns := [], harness := (true, "754d701b10f8b2a3b79267464e8058db6fe5f2c8385e90526affeb954eb5cdaf"), looks := true }, kinds := [], alts := [], laidByText := true, laidKinds := [.data], laidTests := true, laidLooks := .later }
def BookLongCardSaid : Prop := Claim7.holds Tryz.pinned (.plain (OpenSpec.ofChange bookLongSpec)) bookLongCard

/-- THE TIED CARD OF 'stanzalaw20.BookWhole'. -/
def bookWholeCard : Claim7 := { stood := { row := bookWholeRow, standIns := [], harness := (true, "754d701b10f8b2a3b79267464e8058db6fe5f2c8385e90526affeb954eb5cdaf"), looks := true }, kinds := [], alts := [], laidByText := true, laidKinds := [.data], laidTests := true, laidLooks := .later }
def BookWholeCardSaid : Prop := Claim7.holds Tryz.pinned (.plain (OpenSpec.ofChange bookWholeSpec)) bookWholeCard

/-- THE TIED CARD OF 'stanzalaw20.BookAgain'. -/
def bookAgainCard : Claim7 := { stood := { row := bookAgainRow, standIns := [], harness := (true, "754d701b10f8b2a3b79267464e8058db6fe5f2c8385e90526affeb954eb5cdaf"), looks := true }, kinds := [], alts := [], laidByText := true, laidKinds := [.data], laidTests := true, laidLooks := .later }
def BookAgainCardSaid : Prop := Claim7.holds Tryz.pinned (.plain (OpenSpec.ofChange bookAgainSpec)) bookAgainCard

/-- THE TIED CARD OF 'stanzalaw20.BookModes'. -/
def bookModesCard : Claim7 := { stood := { row := bookModesRow, standIns := [], harness := (true, "754d701b10f8b2a3b79267464e8058db6fe5f2c8385e90526affeb954eb5cdaf"), looks := true }, kinds := [], alts := [], laidByText := true, laidKinds := [.data], laidTests := true, laidLooks := .later }
def BookModesCardSaid : Prop := Claim7.holds Tryz.pinned (.plain (OpenSpec.ofChange bookModesSpec)) bookModesCard

/-- THE SECOND FORM's CARD OF 'stanzalaw20.BookParas'. -/
def bookParasUptoCard : Claim7 := { stood := { row := bookParasUptoRow, standIns := [], harness := (true, "754d701b10f8b2a3b79267464e8058db6fe5f2c8385e90526affeb954eb5cdaf"), looks := true }, kinds := [], alts := [], laidByText := true, laidKinds := [.data], laidTests := true, laidLooks := .later }
def BookParasUptoCardSaid : Prop := Claim7.holds Tryz.pinned (.plain (OpenSpec.upto bookParasSpec)) bookParasUptoCard

/-- THE SECOND FORM's CARD OF 'stanzalaw20.BookLays'. -/
def bookLaysUptoCard : Claim7 := { stood := { row := bookLaysUptoRow, standIns := [], harness := (true, "754d701b10f8b2a3b79267464e8058db6fe5f2c8385e90526affeb954eb5cdaf"), looks := true }, kinds := [], alts := [], laidByText := true, laidKinds := [.data], laidTests := true, laidLooks := .later }
def BookLaysUptoCardSaid : Prop := Claim7.holds Tryz.pinned (.plain (OpenSpec.upto bookLaysSpec)) bookLaysUptoCard

/-- THE SECOND FORM's CARD OF 'stanzalaw20.BookLong'. -/
def bookLongUptoCard : Claim7 := { stood := { row := bookLongUptoRow, standIns := [], harness := (true, "754d701b10f8b2a3b79267464e8058db6fe5f2c8385e90526affeb954eb5cdaf"), looks := true }, kinds := [], alts := [], laidByText := true, laidKinds := [.data], laidTests := true, laidLooks := .later }
def BookLongUptoCardSaid : Prop := Claim7.holds Tryz.pinned (.plain (OpenSpec.upto bookLongSpec)) bookLongUptoCard

/-- THE SECOND FORM's CARD OF 'stanzalaw20.BookWhole'. -/
def bookWholeUptoCard : Claim7 := { stood := { row := bookWholeUptoRow, standIns := [], harness := (true, "754d701b10f8b2a3b79267464e8058db6fe5f2c8385e90526affeb954eb5cdaf"), looks := true }, kinds := [], alts := [], laidByText := true, laidKinds := [.data], laidTests := true, laidLooks := .later }
def BookWholeUptoCardSaid : Prop := Claim7.holds Tryz.pinned (.plain (OpenSpec.upto bookWholeSpec)) bookWholeUptoCard

/-- THE SECOND FORM's CARD OF 'stanzalaw20.BookAgain'. -/
def bookAgainUptoCard : Claim7 := { stood := { row := bookAgainUptoRow, standIns := [], harness := (true, "754d701b10f8b2a3b79267464e8058db6fe5f2c8385e90526affeb954eb5cdaf"), looks := true }, kinds := [], alts := [], laidByText := true, laidKinds := [.data], laidTests := true, laidLooks := .later }
def BookAgainUptoCardSaid : Prop := Claim7.holds Tryz.pinned (.plain (OpenSpec.upto bookAgainSpec)) bookAgainUptoCard

/-- THE SECOND FORM's CARD OF 'stanzalaw20.BookModes'. -/
def bookModesUptoCard : Claim7 := { stood := { row := bookModesUptoRow, standIns := [], harness := (true, "754d701b10f8b2a3b79267464e8058db6fe5f2c8385e90526affeb954eb5cdaf"), looks := true }, kinds := [], alts := [], laidByText := true, laidKinds := [.data], laidTests := true, laidLooks := .later }
def BookModesUptoCardSaid : Prop := Claim7.holds Tryz.pinned (.plain (OpenSpec.upto bookModesSpec)) bookModesUptoCard
end Rows
end Go.Proofs.YtflahpmlcfhpcaaGreatDoor
