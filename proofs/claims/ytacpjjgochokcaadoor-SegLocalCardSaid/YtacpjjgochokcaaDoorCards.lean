/-
  DERIVED. GIVEN WITH THE SEED: THE CARDS: each row of YtacpjjgochokcaaDoorRows.lean that lists a variable, with what it lists TIED to the program's text (the seventh form; the later family's looks); each row that meets fmt, with fmt's text TOLD by the authors' own Lean function (tested against real Go, not proved from fmt's source: count such statements apart). THE CARD IS WHAT COUNTS. Prove the row's statement (the work); the ties are given (YtacpjjgochokcaaDoorTie.lean); close each card by the builder's one call (the guide's Derived/Test/ToyasCard.lean, 'card_holds'). Laid BY PROGRAM, IN A SANDBOX (cutbox-door.mjs). By AI agents, Wed Nov 11 2026. No macro, syntax, notation, axiom, sorry.
-/
import Derived.Test.YtacpjjgochokcaaDoorRows
import GoSem.ClaimSeven
namespace Go.Proofs.YtacpjjgochokcaaDoor
namespace Rows

/-- THE TIED CARD OF 'stanzalaw06.SegRuns'. -/
def segRunsCard : Claim7 := { stood := { row := segRunsRow, standIns := [], harness := (true, "859c4d5280bfdb7019ab089334a957ff308359cfe3cbdf2dc80129ac8619d78f"), looks := true }, kinds := [], alts := [], laidByText := true, laidKinds := [.data], laidTests := true, laidLooks := .later }
def SegRunsCardSaid : Prop := Claim7.holds Tryd.pinned (.plain (OpenSpec.ofChange segRunsSpec)) segRunsCard

/-- THE TIED CARD OF 'stanzalaw06.SegOrder'. -/
def segOrderCard : Claim7 := { stood := { row := segOrderRow, standIns := [], harness := (true, "859c4d5280bfdb7019ab089334a957ff308359cfe3cbdf2dc80129ac8619d78f"), looks := true }, kinds := [], alts := [], laidByText := true, laidKinds := [.data], laidTests := true, laidLooks := .later }
def SegOrderCardSaid : Prop := Claim7.holds Tryd.pinned (.plain (OpenSpec.ofChange segOrderSpec)) segOrderCard

/-- THE TIED CARD OF 'stanzalaw06.SegJoins'. -/
def segJoinsCard : Claim7 := { stood := { row := segJoinsRow, standIns := [], harness := (true, "859c4d5280bfdb7019ab089334a957ff308359cfe3cbdf2dc80129ac8619d78f"), looks := true }, kinds := [], alts := [], laidByText := true, laidKinds := [.data], laidTests := true, laidLooks := .later }
def SegJoinsCardSaid : Prop := Claim7.holds Tryd.pinned (.plain (OpenSpec.ofChange segJoinsSpec)) segJoinsCard

/-- THE TIED CARD OF 'stanzalaw06.SegLocal'. -/
def segLocalCard : Claim7 := { stood := { row := segLocalRow, standIns := [], harness := (true, "859c4d5280bfdb7019ab089334a957ff308359cfe3cbdf2dc80129ac8619d78f"), looks := true }, kinds := [], alts := [], laidByText := true, laidKinds := [.data], laidTests := true, laidLooks := .later }
def SegLocalCardSaid : Prop := Claim7.holds Tryd.pinned (.plain (OpenSpec.ofChange segLocalSpec)) segLocalCard

/-- THE TIED CARD OF 'stanzalaw06.SegFar'. -/
def segFarCard : Claim7 := { stood := { row := segFarRow, standIns := [], harness := (true, "859c4d5280bfdb7019ab089334a957ff308359cfe3cbdf2dc80129ac8619d78f"), looks := true }, kinds := [], alts := [], laidByText := true, laidKinds := [.data], laidTests := true, laidLooks := .later }
def SegFarCardSaid : Prop := Claim7.holds Tryd.pinned (.plain (OpenSpec.ofChange segFarSpec)) segFarCard

/-- THE SECOND FORM's CARD OF 'stanzalaw06.SegRuns'. -/
def segRunsUptoCard : Claim7 := { stood := { row := segRunsUptoRow, standIns := [], harness := (true, "859c4d5280bfdb7019ab089334a957ff308359cfe3cbdf2dc80129ac8619d78f"), looks := true }, kinds := [], alts := [], laidByText := true, laidKinds := [.data], laidTests := true, laidLooks := .later }
def SegRunsUptoCardSaid : Prop := Claim7.holds Tryd.pinned (.plain (OpenSpec.upto segRunsSpec)) segRunsUptoCard

/-- THE SECOND FORM's CARD OF 'stanzalaw06.SegOrder'. -/
def segOrderUptoCard : Claim7 := { stood := { row := segOrderUptoRow, standIns := [], harness := (true, "859c4d5280bfdb7019ab089334a957ff308359cfe3cbdf2dc80129ac8619d78f"), looks := true }, kinds := [], alts := [], laidByText := true, laidKinds := [.data], laidTests := true, laidLooks := .later }
def SegOrderUptoCardSaid : Prop := Claim7.holds Tryd.pinned (.plain (OpenSpec.upto segOrderSpec)) segOrderUptoCard

/-- THE SECOND FORM's CARD OF 'stanzalaw06.SegJoins'. -/
def segJoinsUptoCard : Claim7 := { stood := { row := segJoinsUptoRow, standIns := [], harness := (true, "859c4d5280bfdb7019ab089334a957ff308359cfe3cbdf2dc80129ac8619d78f"), looks := true }, kinds := [], alts := [], laidByText := true, laidKinds := [.data], laidTests := true, laidLooks := .later }
def SegJoinsUptoCardSaid : Prop := Claim7.holds Tryd.pinned (.plain (OpenSpec.upto segJoinsSpec)) segJoinsUptoCard

/-- THE SECOND FORM's CARD OF 'stanzalaw06.SegLocal'. -/
def segLocalUptoCard : Claim7 := { stood := { row := segLocalUptoRow, standIns := [], harness := (true, "859c4d5280bfdb7019ab089334a957ff308359cfe3cbdf2dc80129ac8619d78f"), looks := true }, kinds := [], alts := [], laidByText := true, laidKinds := [.data], laidTests := true, laidLooks := .later }
def SegLocalUptoCardSaid : Prop := Claim7.holds Tryd.pinned (.plain (OpenSpec.upto segLocalSpec)) segLocalUptoCard

/-- THE SECOND FORM's CARD OF 'stanzalaw06.SegFar'. -/
def segFarUptoCard : Claim7 := { stood := { row := segFarUptoRow, standIns := [], harness := (true, "859c4d5280bfdb7019ab089334a957ff308359cfe3cbdf2dc80129ac8619d78f"), looks := true }, kinds := [], alts := [], laidByText := true, laidKinds := [.data], laidTests := true, laidLooks := .later }
def SegFarUptoCardSaid : Prop := Claim7.holds Tryd.pinned (.plain (OpenSpec.upto segFarSpec)) segFarUptoCard
end Rows
end Go.Proofs.YtacpjjgochokcaaDoor
