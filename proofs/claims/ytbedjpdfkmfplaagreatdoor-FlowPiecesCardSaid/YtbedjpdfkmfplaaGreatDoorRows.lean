/-
  NARROWER THAN 'FOR EVERY INPUT', by the rows' own cells (each row's printed sentence says how): FlowPieces: laid · FlowUndoes: laid · FlowOwn: laid · FlowNew: laid · FlowChanges: laid.
  DERIVED. THE GIVEN ROWS OF THIS SEAT. 5 by the template 'for every input the law returns true; each argument reads behind the call as it read before'; 0 by the template 'total and deterministic' (their statements: YtbedjpdfkmfplaaGreatDoorTotals.lean).
  GIVEN WITH THE SEED: the statements are not yours to turn. If you find one false, say at which input.
  Laid BY PROGRAM, IN A SANDBOX (cutbox-rows.mjs): the forced cells as the released guide's own fill.sh prints them over the translation 07ff23856d229129… (all of the seat's roots in one cut). By AI agents, Wed Nov 11 2026. No macro, syntax, notation, axiom, sorry.
-/
import Derived.Test.YtbedjpdfkmfplaaGreatDoorChecked
import GoSem.Claim
import GoSem.ClaimJoined
import GoSem.ClaimMapViews
import Derived.JoinedTies
import Derived.KernelRfl
namespace Go.Proofs.YtbedjpdfkmfplaaGreatDoor
/- THE CELL 'sum', in the pinned program and in every row, IS THE sha256 OF THE DUMP (.gsa) THAT YtbedjpdfkmfplaaGreatDoorProg.lean LOADS. Nothing in Lean hashes anything: it is a label: what it is worth is what the hold of that sum in a sandbox is worth. -/
noncomputable def Tryz.pinned : Pinned := { name := "ytbedjpdfkmfplaagreatdoor", sum := "07ff23856d2291294e2991686c56c182fb5ee6a8bc120a9f21c9453c3902c266", checked := Tryz.checked }
namespace Rows
def none {H : Type} : Left H := { results := [], args := [] }

/- WHAT THE LISTED PACKAGE-LEVEL VARIABLES READ AS WHEN THE CALL BEGINS. Each datum BY PROGRAM (the guide's laid-datum.mjs) off the statement by which the dump's own 'gosem.cut.vars' lays the variable. In a bare row this is a premise. The card (YtbedjpdfkmfplaaGreatDoorCards.lean) ties it to the program's text. -/
def laid_math_bits_deBruijn32tab {H : Type} : DataW H := .agg [.lit (.int .u8 0), .lit (.int .u8 1), .lit (.int .u8 28), .lit (.int .u8 2), .lit (.int .u8 29), .lit (.int .u8 14), .lit (.int .u8 24), .lit (.int .u8 3), .lit (.int .u8 30), .lit (.int .u8 22), .lit (.int .u8 20), .lit (.int .u8 15), .lit (.int .u8 25), .lit (.int .u8 17), .lit (.int .u8 4), .lit (.int .u8 8), .lit (.int .u8 31), .lit (.int .u8 27), .lit (.int .u8 13), .lit (.int .u8 23), .lit (.int .u8 21), .lit (.int .u8 19), .lit (.int .u8 16), .lit (.int .u8 7), .lit (.int .u8 26), .lit (.int .u8 12), .lit (.int .u8 18), .lit (.int .u8 6), .lit (.int .u8 11), .lit (.int .u8 5), .lit (.int .u8 10), .lit (.int .u8 9)]

/-- 'stanzalaw21.FlowPieces': WHATEVER THE INPUT: true; the input reads as it did. -/
def flowPiecesSpec : ChangeSpec := { name := "flowPieces", fn := fun _ => fun
  | [d1, d2, d3, d4, d5, d6] => { results := [.lit (.bool true)], args := [d1, d2, d3, d4, d5, d6] }
  | _ => none }
def flowPiecesRow : OpenClaim := { program := "ytbedjpdfkmfplaagreatdoor", sum := "07ff23856d2291294e2991686c56c182fb5ee6a8bc120a9f21c9453c3902c266", func := "stanza/stanzalaw21.FlowPieces", spec := "flowPieces", inPlace := ["internal/bytealg.IndexByteString", "math.Float64bits", "math.Float64frombits"], unfollowed := true, recurses := true, named := ["math/bits.deBruijn32tab"], plainKeys := false, apart := false, laid := [("math/bits.deBruijn32tab", laid_math_bits_deBruijn32tab)] }
def FlowPiecesSaid : Prop := flowPiecesRow.holds Tryz.pinned (OpenSpec.ofChange flowPiecesSpec)

/-- ITS FALSE NEIGHBOUR: 'it returns false'. Refute it at one input. -/
def flowPiecesWrong : ChangeSpec := { name := "flowPieces", fn := fun _ => fun
  | [d1, d2, d3, d4, d5, d6] => { results := [.lit (.bool false)], args := [d1, d2, d3, d4, d5, d6] }
  | _ => none }
def FlowPiecesWrongFalsely : Prop := flowPiecesRow.holds Tryz.pinned (OpenSpec.ofChange flowPiecesWrong)

/-- 'stanzalaw21.FlowUndoes': WHATEVER THE INPUT: true; the input reads as it did. -/
def flowUndoesSpec : ChangeSpec := { name := "flowUndoes", fn := fun _ => fun
  | [d1, d2, d3, d4, d5] => { results := [.lit (.bool true)], args := [d1, d2, d3, d4, d5] }
  | _ => none }
def flowUndoesRow : OpenClaim := { program := "ytbedjpdfkmfplaagreatdoor", sum := "07ff23856d2291294e2991686c56c182fb5ee6a8bc120a9f21c9453c3902c266", func := "stanza/stanzalaw21.FlowUndoes", spec := "flowUndoes", inPlace := ["internal/bytealg.IndexByteString", "math.Float64bits", "math.Float64frombits"], unfollowed := true, recurses := true, named := ["math/bits.deBruijn32tab"], plainKeys := false, apart := false, laid := [("math/bits.deBruijn32tab", laid_math_bits_deBruijn32tab)] }
def FlowUndoesSaid : Prop := flowUndoesRow.holds Tryz.pinned (OpenSpec.ofChange flowUndoesSpec)

/-- ITS FALSE NEIGHBOUR: 'it returns false'. Refute it at one input. -/
def flowUndoesWrong : ChangeSpec := { name := "flowUndoes", fn := fun _ => fun
  | [d1, d2, d3, d4, d5] => { results := [.lit (.bool false)], args := [d1, d2, d3, d4, d5] }
  | _ => none }
def FlowUndoesWrongFalsely : Prop := flowUndoesRow.holds Tryz.pinned (OpenSpec.ofChange flowUndoesWrong)

/-- 'stanzalaw21.FlowOwn': WHATEVER THE INPUT: true; the input reads as it did. -/
def flowOwnSpec : ChangeSpec := { name := "flowOwn", fn := fun _ => fun
  | [d1, d2, d3, d4] => { results := [.lit (.bool true)], args := [d1, d2, d3, d4] }
  | _ => none }
def flowOwnRow : OpenClaim := { program := "ytbedjpdfkmfplaagreatdoor", sum := "07ff23856d2291294e2991686c56c182fb5ee6a8bc120a9f21c9453c3902c266", func := "stanza/stanzalaw21.FlowOwn", spec := "flowOwn", inPlace := ["internal/bytealg.IndexByteString", "math.Float64bits", "math.Float64frombits"], unfollowed := true, recurses := true, named := ["math/bits.deBruijn32tab"], plainKeys := false, apart := false, laid := [("math/bits.deBruijn32tab", laid_math_bits_deBruijn32tab)] }
def FlowOwnSaid : Prop := flowOwnRow.holds Tryz.pinned (OpenSpec.ofChange flowOwnSpec)

/-- ITS FALSE NEIGHBOUR: 'it returns false'. Refute it at one input. -/
def flowOwnWrong : ChangeSpec := { name := "flowOwn", fn := fun _ => fun
  | [d1, d2, d3, d4] => { results := [.lit (.bool false)], args := [d1, d2, d3, d4] }
  | _ => none }
def FlowOwnWrongFalsely : Prop := flowOwnRow.holds Tryz.pinned (OpenSpec.ofChange flowOwnWrong)

/-- 'stanzalaw21.FlowNew': WHATEVER THE INPUT: true; the input reads as it did. -/
def flowNewSpec : ChangeSpec := { name := "flowNew", fn := fun _ => fun
  | [d1, d2, d3, d4] => { results := [.lit (.bool true)], args := [d1, d2, d3, d4] }
  | _ => none }
def flowNewRow : OpenClaim := { program := "ytbedjpdfkmfplaagreatdoor", sum := "07ff23856d2291294e2991686c56c182fb5ee6a8bc120a9f21c9453c3902c266", func := "stanza/stanzalaw21.FlowNew", spec := "flowNew", inPlace := ["internal/bytealg.IndexByteString", "math.Float64bits", "math.Float64frombits"], unfollowed := true, recurses := true, named := ["math/bits.deBruijn32tab"], plainKeys := false, apart := false, laid := [("math/bits.deBruijn32tab", laid_math_bits_deBruijn32tab)] }
def FlowNewSaid : Prop := flowNewRow.holds Tryz.pinned (OpenSpec.ofChange flowNewSpec)

/-- ITS FALSE NEIGHBOUR: 'it returns false'. Refute it at one input. -/
def flowNewWrong : ChangeSpec := { name := "flowNew", fn := fun _ => fun
  | [d1, d2, d3, d4] => { results := [.lit (.bool false)], args := [d1, d2, d3, d4] }
  | _ => none }
def FlowNewWrongFalsely : Prop := flowNewRow.holds Tryz.pinned (OpenSpec.ofChange flowNewWrong)

/-- 'stanzalaw21.FlowChanges': WHATEVER THE INPUT: true; the input reads as it did. -/
def flowChangesSpec : ChangeSpec := { name := "flowChanges", fn := fun _ => fun
  | [d1, d2, d3, d4] => { results := [.lit (.bool true)], args := [d1, d2, d3, d4] }
  | _ => none }
def flowChangesRow : OpenClaim := { program := "ytbedjpdfkmfplaagreatdoor", sum := "07ff23856d2291294e2991686c56c182fb5ee6a8bc120a9f21c9453c3902c266", func := "stanza/stanzalaw21.FlowChanges", spec := "flowChanges", inPlace := ["internal/bytealg.IndexByteString", "math.Float64bits", "math.Float64frombits"], unfollowed := true, recurses := true, named := ["math/bits.deBruijn32tab"], plainKeys := false, apart := false, laid := [("math/bits.deBruijn32tab", laid_math_bits_deBruijn32tab)] }
def FlowChangesSaid : Prop := flowChangesRow.holds Tryz.pinned (OpenSpec.ofChange flowChangesSpec)

/-- ITS FALSE NEIGHBOUR: 'it returns false'. Refute it at one input. -/
def flowChangesWrong : ChangeSpec := { name := "flowChanges", fn := fun _ => fun
  | [d1, d2, d3, d4] => { results := [.lit (.bool false)], args := [d1, d2, d3, d4] }
  | _ => none }
def FlowChangesWrongFalsely : Prop := flowChangesRow.holds Tryz.pinned (OpenSpec.ofChange flowChangesWrong)

/- THE SECOND FORM. 'bulk': how many values and letters a reading holds, each counted each time it is reached (what is shared counts as often as it is met; a slice's spare places count too). A statement '..UptoSaid' is the law's where the arguments, and the package variables that the reading takes, are together of bulk at most 1048576: NARROWER than '..Said'. Prove '..Said' where nothing that the law and all that it calls make is longer than what came in: it says more and counts as full. Else prove '..UptoSaid'. A law counts once. -/
mutual
def uptoBulk {H : Type} : DataW H → Nat
  | .lit (.string bytes) => bytes.length + 1
  | .lit _ => 1
  | .nil => 1
  | .ptr d => uptoBulk d + 1
  | .slice elems spare => uptoBulkAll elems + uptoBulkAll spare + 1
  | .agg parts => uptoBulkAll parts + 1
  | .iface _ d => uptoBulk d + 1
  | .map entries => uptoBulkEntries entries + 1
  | .held _ => 1
def uptoBulkAll {H : Type} : List (DataW H) → Nat
  | [] => 0
  | d :: r => uptoBulk d + uptoBulkAll r
def uptoBulkEntries {H : Type} : List (Lit × DataW H) → Nat
  | [] => 0
  | x :: r => uptoBulkEntry x + uptoBulkEntries r
def uptoBulkEntry {H : Type} : Lit × DataW H → Nat
  | (.string bytes, d) => bytes.length + uptoBulk d + 1
  | (_, d) => uptoBulk d + 1
 end
def uptoSmall : (H : Type) → List (DataW H) → Bool := fun _ ds => decide (uptoBulkAll ds ≤ 1048576)
def OpenSpec.upto (s : _root_.Go.ChangeSpec) : _root_.Go.OpenSpec := { _root_.Go.OpenSpec.ofChange s with cond := some uptoSmall }

/-- 'stanzalaw21.FlowPieces', WHERE WHAT IT READS IS OF BULK AT MOST 1048576: true; the input reads as it did. -/
def flowPiecesUptoRow : OpenClaim := { program := "ytbedjpdfkmfplaagreatdoor", sum := "07ff23856d2291294e2991686c56c182fb5ee6a8bc120a9f21c9453c3902c266", func := "stanza/stanzalaw21.FlowPieces", spec := "flowPieces", inPlace := ["internal/bytealg.IndexByteString", "math.Float64bits", "math.Float64frombits"], unfollowed := true, recurses := true, named := ["math/bits.deBruijn32tab"], plainKeys := false, apart := false, laid := [("math/bits.deBruijn32tab", laid_math_bits_deBruijn32tab)], narrowed := true }
def FlowPiecesUptoSaid : Prop := flowPiecesUptoRow.holds Tryz.pinned (OpenSpec.upto flowPiecesSpec)

/-- 'stanzalaw21.FlowUndoes', WHERE WHAT IT READS IS OF BULK AT MOST 1048576: true; the input reads as it did. -/
def flowUndoesUptoRow : OpenClaim := { program := "ytbedjpdfkmfplaagreatdoor", sum := "07ff23856d2291294e2991686c56c182fb5ee6a8bc120a9f21c9453c3902c266", func := "stanza/stanzalaw21.FlowUndoes", spec := "flowUndoes", inPlace := ["internal/bytealg.IndexByteString", "math.Float64bits", "math.Float64frombits"], unfollowed := true, recurses := true, named := ["math/bits.deBruijn32tab"], plainKeys := false, apart := false, laid := [("math/bits.deBruijn32tab", laid_math_bits_deBruijn32tab)], narrowed := true }
def FlowUndoesUptoSaid : Prop := flowUndoesUptoRow.holds Tryz.pinned (OpenSpec.upto flowUndoesSpec)

/-- 'stanzalaw21.FlowOwn', WHERE WHAT IT READS IS OF BULK AT MOST 1048576: true; the input reads as it did. -/
def flowOwnUptoRow : OpenClaim := { program := "ytbedjpdfkmfplaagreatdoor", sum := "07ff23856d2291294e2991686c56c182fb5ee6a8bc120a9f21c9453c3902c266", func := "stanza/stanzalaw21.FlowOwn", spec := "flowOwn", inPlace := ["internal/bytealg.IndexByteString", "math.Float64bits", "math.Float64frombits"], unfollowed := true, recurses := true, named := ["math/bits.deBruijn32tab"], plainKeys := false, apart := false, laid := [("math/bits.deBruijn32tab", laid_math_bits_deBruijn32tab)], narrowed := true }
def FlowOwnUptoSaid : Prop := flowOwnUptoRow.holds Tryz.pinned (OpenSpec.upto flowOwnSpec)

/-- 'stanzalaw21.FlowNew', WHERE WHAT IT READS IS OF BULK AT MOST 1048576: true; the input reads as it did. -/
def flowNewUptoRow : OpenClaim := { program := "ytbedjpdfkmfplaagreatdoor", sum := "07ff23856d2291294e2991686c56c182fb5ee6a8bc120a9f21c9453c3902c266", func := "stanza/stanzalaw21.FlowNew", spec := "flowNew", inPlace := ["internal/bytealg.IndexByteString", "math.Float64bits", "math.Float64frombits"], unfollowed := true, recurses := true, named := ["math/bits.deBruijn32tab"], plainKeys := false, apart := false, laid := [("math/bits.deBruijn32tab", laid_math_bits_deBruijn32tab)], narrowed := true }
def FlowNewUptoSaid : Prop := flowNewUptoRow.holds Tryz.pinned (OpenSpec.upto flowNewSpec)

/-- 'stanzalaw21.FlowChanges', WHERE WHAT IT READS IS OF BULK AT MOST 1048576: true; the input reads as it did. -/
def flowChangesUptoRow : OpenClaim := { program := "ytbedjpdfkmfplaagreatdoor", sum := "07ff23856d2291294e2991686c56c182fb5ee6a8bc120a9f21c9453c3902c266", func := "stanza/stanzalaw21.FlowChanges", spec := "flowChanges", inPlace := ["internal/bytealg.IndexByteString", "math.Float64bits", "math.Float64frombits"], unfollowed := true, recurses := true, named := ["math/bits.deBruijn32tab"], plainKeys := false, apart := false, laid := [("math/bits.deBruijn32tab", laid_math_bits_deBruijn32tab)], narrowed := true }
def FlowChangesUptoSaid : Prop := flowChangesUptoRow.holds Tryz.pinned (OpenSpec.upto flowChangesSpec)

end Rows
end Go.Proofs.YtbedjpdfkmfplaaGreatDoor
