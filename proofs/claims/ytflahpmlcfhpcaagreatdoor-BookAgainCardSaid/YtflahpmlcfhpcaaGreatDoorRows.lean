/-
  NARROWER THAN 'FOR EVERY INPUT', by the rows' own cells (each row's printed sentence says how): BookParas: laid · BookLays: laid · BookLong: laid · BookWhole: laid · BookAgain: laid · BookModes: laid.
  DERIVED. THE GIVEN ROWS OF THIS SEAT. 6 by the template 'for every input the law returns true; each argument reads behind the call as it read before'; 0 by the template 'total and deterministic' (their statements: YtflahpmlcfhpcaaGreatDoorTotals.lean).
  GIVEN WITH THE SEED: the statements are not yours to turn. If you find one false, say at which input.
  Laid BY PROGRAM, IN A SANDBOX (cutbox-rows.mjs): the forced cells as the released guide's own fill.sh prints them over the translation 393bab5cbef3e176… (all of the seat's roots in one cut). By AI agents, Wed Nov 11 2026. No macro, syntax, notation, axiom, sorry.
-/
import Derived.Test.YtflahpmlcfhpcaaGreatDoorChecked
import GoSem.Claim
import GoSem.ClaimJoined
import GoSem.ClaimMapViews
import Derived.JoinedTies
import Derived.KernelRfl
namespace Go.Proofs.YtflahpmlcfhpcaaGreatDoor
/- THE CELL 'sum', in the pinned program and in every row, IS THE sha256 OF THE DUMP (.gsa) THAT YtflahpmlcfhpcaaGreatDoorProg.lean LOADS. Nothing in Lean hashes anything: it is a label: what it is worth is what the hold of that sum in a sandbox is worth. -/
noncomputable def Tryz.pinned : Pinned := { name := "ytflahpmlcfhpcaagreatdoor", sum := "393bab5cbef3e176ec1ffabf7577bbd823b9e7df041ffd5db12a026586276a31", checked := Tryz.checked }
namespace Rows
def none {H : Type} : Left H := { results := [], args := [] }

/- WHAT THE LISTED PACKAGE-LEVEL VARIABLES READ AS WHEN THE CALL BEGINS. Each datum BY PROGRAM (the guide's laid-datum.mjs) off the statement by which the dump's own 'gosem.cut.vars' lays the variable. In a bare row this is a premise. The card (YtflahpmlcfhpcaaGreatDoorCards.lean) ties it to the program's text. -/
def laid_math_bits_deBruijn32tab {H : Type} : DataW H := .agg [.lit (.int .u8 0), .lit (.int .u8 1), .lit (.int .u8 28), .lit (.int .u8 2), .lit (.int .u8 29), .lit (.int .u8 14), .lit (.int .u8 24), .lit (.int .u8 3), .lit (.int .u8 30), .lit (.int .u8 22), .lit (.int .u8 20), .lit (.int .u8 15), .lit (.int .u8 25), .lit (.int .u8 17), .lit (.int .u8 4), .lit (.int .u8 8), .lit (.int .u8 31), .lit (.int .u8 27), .lit (.int .u8 13), .lit (.int .u8 23), .lit (.int .u8 21), .lit (.int .u8 19), .lit (.int .u8 16), .lit (.int .u8 7), .lit (.int .u8 26), .lit (.int .u8 12), .lit (.int .u8 18), .lit (.int .u8 6), .lit (.int .u8 11), .lit (.int .u8 5), .lit (.int .u8 10), .lit (.int .u8 9)]

/-- 'stanzalaw20.BookParas': WHATEVER THE INPUT: true; the input reads as it did. -/
def bookParasSpec : ChangeSpec := { name := "bookParas", fn := fun _ => fun
  | [d1, d2, d3] => { results := [.lit (.bool true)], args := [d1, d2, d3] }
  | _ => none }
def bookParasRow : OpenClaim := { program := "ytflahpmlcfhpcaagreatdoor", sum := "393bab5cbef3e176ec1ffabf7577bbd823b9e7df041ffd5db12a026586276a31", func := "stanza/stanzalaw20.BookParas", spec := "bookParas", inPlace := ["internal/bytealg.IndexByteString", "math.Float64bits", "math.Float64frombits"], unfollowed := true, recurses := true, named := ["math/bits.deBruijn32tab"], plainKeys := false, apart := false, laid := [("math/bits.deBruijn32tab", laid_math_bits_deBruijn32tab)] }
def BookParasSaid : Prop := bookParasRow.holds Tryz.pinned (OpenSpec.ofChange bookParasSpec)

/-- ITS FALSE NEIGHBOUR: 'it returns false'. Refute it at one input. -/
def bookParasWrong : ChangeSpec := { name := "bookParas", fn := fun _ => fun
  | [d1, d2, d3] => { results := [.lit (.bool false)], args := [d1, d2, d3] }
  | _ => none }
def BookParasWrongFalsely : Prop := bookParasRow.holds Tryz.pinned (OpenSpec.ofChange bookParasWrong)

/-- 'stanzalaw20.BookLays': WHATEVER THE INPUT: true; the input reads as it did. -/
def bookLaysSpec : ChangeSpec := { name := "bookLays", fn := fun _ => fun
  | [d1, d2, d3, d4] => { results := [.lit (.bool true)], args := [d1, d2, d3, d4] }
  | _ => none }
def bookLaysRow : OpenClaim := { program := "ytflahpmlcfhpcaagreatdoor", sum := "393bab5cbef3e176ec1ffabf7577bbd823b9e7df041ffd5db12a026586276a31", func := "stanza/stanzalaw20.BookLays", spec := "bookLays", inPlace := ["internal/bytealg.IndexByteString", "math.Float64bits", "math.Float64frombits"], unfollowed := true, recurses := true, named := ["math/bits.deBruijn32tab"], plainKeys := false, apart := false, laid := [("math/bits.deBruijn32tab", laid_math_bits_deBruijn32tab)] }
def BookLaysSaid : Prop := bookLaysRow.holds Tryz.pinned (OpenSpec.ofChange bookLaysSpec)

/-- ITS FALSE NEIGHBOUR: 'it returns false'. Refute it at one input. -/
def bookLaysWrong : ChangeSpec := { name := "bookLays", fn := fun _ => fun
  | [d1, d2, d3, d4] => { results := [.lit (.bool false)], args := [d1, d2, d3, d4] }
  | _ => none }
def BookLaysWrongFalsely : Prop := bookLaysRow.holds Tryz.pinned (OpenSpec.ofChange bookLaysWrong)

/-- 'stanzalaw20.BookLong': WHATEVER THE INPUT: true; the input reads as it did. -/
def bookLongSpec : ChangeSpec := { name := "bookLong", fn := fun _ => fun
  | [d1, d2, d3] => { results := [.lit (.bool true)], args := [d1, d2, d3] }
  | _ => none }
def bookLongRow : OpenClaim := { program := "ytflahpmlcfhpcaagreatdoor", sum := "393bab5cbef3e176ec1ffabf7577bbd823b9e7df041ffd5db12a026586276a31", func := "stanza/stanzalaw20.BookLong", spec := "bookLong", inPlace := ["internal/bytealg.IndexByteString", "math.Float64bits", "math.Float64frombits"], unfollowed := true, recurses := true, named := ["math/bits.deBruijn32tab"], plainKeys := false, apart := false, laid := [("math/bits.deBruijn32tab", laid_math_bits_deBruijn32tab)] }
def BookLongSaid : Prop := bookLongRow.holds Tryz.pinned (OpenSpec.ofChange bookLongSpec)

/-- ITS FALSE NEIGHBOUR: 'it returns false'. Refute it at one input. -/
def bookLongWrong : ChangeSpec := { name := "bookLong", fn := fun _ => fun
  | [d1, d2, d3] => { results := [.lit (.bool false)], args := [d1, d2, d3] }
  | _ => none }
def BookLongWrongFalsely : Prop := bookLongRow.holds Tryz.pinned (OpenSpec.ofChange bookLongWrong)

/-- 'stanzalaw20.BookWhole': WHATEVER THE INPUT: true; the input reads as it did. -/
def bookWholeSpec : ChangeSpec := { name := "bookWhole", fn := fun _ => fun
  | [d1, d2, d3] => { results := [.lit (.bool true)], args := [d1, d2, d3] }
  | _ => none }
def bookWholeRow : OpenClaim := { program := "ytflahpmlcfhpcaagreatdoor", sum := "393bab5cbef3e176ec1ffabf7577bbd823b9e7df041ffd5db12a026586276a31", func := "stanza/stanzalaw20.BookWhole", spec := "bookWhole", inPlace := ["internal/bytealg.IndexByteString", "math.Float64bits", "math.Float64frombits"], unfollowed := true, recurses := true, named := ["math/bits.deBruijn32tab"], plainKeys := false, apart := false, laid := [("math/bits.deBruijn32tab", laid_math_bits_deBruijn32tab)] }
def BookWholeSaid : Prop := bookWholeRow.holds Tryz.pinned (OpenSpec.ofChange bookWholeSpec)

/-- ITS FALSE NEIGHBOUR: 'it returns false'. Refute it at one input. -/
def bookWholeWrong : ChangeSpec := { name := "bookWhole", fn := fun _ => fun
  | [d1, d2, d3] => { results := [.lit (.bool false)], args := [d1, d2, d3] }
  | _ => none }
def BookWholeWrongFalsely : Prop := bookWholeRow.holds Tryz.pinned (OpenSpec.ofChange bookWholeWrong)

/-- 'stanzalaw20.BookAgain': WHATEVER THE INPUT: true; the input reads as it did. -/
def bookAgainSpec : ChangeSpec := { name := "bookAgain", fn := fun _ => fun
  | [d1, d2, d3, d4] => { results := [.lit (.bool true)], args := [d1, d2, d3, d4] }
  | _ => none }
def bookAgainRow : OpenClaim := { program := "ytflahpmlcfhpcaagreatdoor", sum := "393bab5cbef3e176ec1ffabf7577bbd823b9e7df041ffd5db12a026586276a31", func := "stanza/stanzalaw20.BookAgain", spec := "bookAgain", inPlace := ["internal/bytealg.IndexByteString", "math.Float64bits", "math.Float64frombits"], unfollowed := true, recurses := true, named := ["math/bits.deBruijn32tab"], plainKeys := false, apart := false, laid := [("math/bits.deBruijn32tab", laid_math_bits_deBruijn32tab)] }
def BookAgainSaid : Prop := bookAgainRow.holds Tryz.pinned (OpenSpec.ofChange bookAgainSpec)

/-- ITS FALSE NEIGHBOUR: 'it returns false'. Refute it at one input. -/
def bookAgainWrong : ChangeSpec := { name := "bookAgain", fn := fun _ => fun
  | [d1, d2, d3, d4] => { results := [.lit (.bool false)], args := [d1, d2, d3, d4] }
  | _ => none }
def BookAgainWrongFalsely : Prop := bookAgainRow.holds Tryz.pinned (OpenSpec.ofChange bookAgainWrong)

/-- 'stanzalaw20.BookModes': WHATEVER THE INPUT: true; the input reads as it did. -/
def bookModesSpec : ChangeSpec := { name := "bookModes", fn := fun _ => fun
  | [d1, d2, d3] => { results := [.lit (.bool true)], args := [d1, d2, d3] }
  | _ => none }
def bookModesRow : OpenClaim := { program := "ytflahpmlcfhpcaagreatdoor", sum := "393bab5cbef3e176ec1ffabf7577bbd823b9e7df041ffd5db12a026586276a31", func := "stanza/stanzalaw20.BookModes", spec := "bookModes", inPlace := ["internal/bytealg.IndexByteString", "math.Float64bits", "math.Float64frombits"], unfollowed := true, recurses := true, named := ["math/bits.deBruijn32tab"], plainKeys := false, apart := false, laid := [("math/bits.deBruijn32tab", laid_math_bits_deBruijn32tab)] }
def BookModesSaid : Prop := bookModesRow.holds Tryz.pinned (OpenSpec.ofChange bookModesSpec)

/-- ITS FALSE NEIGHBOUR: 'it returns false'. Refute it at one input. -/
def bookModesWrong : ChangeSpec := { name := "bookModes", fn := fun _ => fun
  | [d1, d2, d3] => { results := [.lit (.bool false)], args := [d1, d2, d3] }
  | _ => none }
def BookModesWrongFalsely : Prop := bookModesRow.holds Tryz.pinned (OpenSpec.ofChange bookModesWrong)

/- THE SECOND FORM. 'bulk': how many values and letters a reading holds, each counted each time it is reached (what is shared counts as often as it is met; a slice's spare places count too). A statement '..UptoSaid' is the law's where the arguments, and the package variables that the reading takes, are together of bulk at most 1048576: NARROWER than '..Said'. Prove '..Said' where nothing that the law and all that it calls make is longer than what came in: it says more and counts as full. Else prove '..UptoSaid'. A law counts once. -/
mutual
def uptoBulk {H : Type} : DataW H → Nat
  | .lit (.string bytes) => bytes.length + 1
  | .lit _ => 1
  | .nil => 1
  | .ptr d => uptoBulk d + 1
  | .slice elems spare => uptoBulkAll elems + uptoBulkAll spare + 1
  | .agg parts => uptoBulkAll parts + 1
  | .iface _ d => uptoBulk d + 1
  | .map entries => uptoBulkEntries entries + 1
  | .held _ => 1
def uptoBulkAll {H : Type} : List (DataW H) → Nat
  | [] => 0
  | d :: r => uptoBulk d + uptoBulkAll r
def uptoBulkEntries {H : Type} : List (Lit × DataW H) → Nat
  | [] => 0
  | x :: r => uptoBulkEntry x + uptoBulkEntries r
def uptoBulkEntry {H : Type} : Lit × DataW H → Nat
  | (.string bytes, d) => bytes.length + uptoBulk d + 1
  | (_, d) => uptoBulk d + 1
 end
def uptoSmall : (H : Type) → List (DataW H) → Bool := fun _ ds => decide (uptoBulkAll ds ≤ 1048576)
def OpenSpec.upto (s : _root_.Go.ChangeSpec) : _root_.Go.OpenSpec := { _root_.Go.OpenSpec.ofChange s with cond := some uptoSmall }

/-- 'stanzalaw20.BookParas', WHERE WHAT IT READS IS OF BULK AT MOST 1048576: true; the input reads as it did. -/
def bookParasUptoRow : OpenClaim := { program := "ytflahpmlcfhpcaagreatdoor", sum := "393bab5cbef3e176ec1ffabf7577bbd823b9e7df041ffd5db12a026586276a31", func := "stanza/stanzalaw20.BookParas", spec := "bookParas", inPlace := ["internal/bytealg.IndexByteString", "math.Float64bits", "math.Float64frombits"], unfollowed := true, recurses := true, named := ["math/bits.deBruijn32tab"], plainKeys := false, apart := false, laid := [("math/bits.deBruijn32tab", laid_math_bits_deBruijn32tab)], narrowed := true }
def BookParasUptoSaid : Prop := bookParasUptoRow.holds Tryz.pinned (OpenSpec.upto bookParasSpec)

/-- 'stanzalaw20.BookLays', WHERE WHAT IT READS IS OF BULK AT MOST 1048576: true; the input reads as it did. -/
def bookLaysUptoRow : OpenClaim := { program := "ytflahpmlcfhpcaagreatdoor", sum := "393bab5cbef3e176ec1ffabf7577bbd823b9e7df041ffd5db12a026586276a31", func := "stanza/stanzalaw20.BookLays", spec := "bookLays", inPlace := ["internal/bytealg.IndexByteString", "math.Float64bits", "math.Float64frombits"], unfollowed := true, recurses := true, named := ["math/bits.deBruijn32tab"], plainKeys := false, apart := false, laid := [("math/bits.deBruijn32tab", laid_math_bits_deBruijn32tab)], narrowed := true }
def BookLaysUptoSaid : Prop := bookLaysUptoRow.holds Tryz.pinned (OpenSpec.upto bookLaysSpec)

/-- 'stanzalaw20.BookLong', WHERE WHAT IT READS IS OF BULK AT MOST 1048576: true; the input reads as it did. -/
def bookLongUptoRow : OpenClaim := { program := "ytflahpmlcfhpcaagreatdoor", sum := "393bab5cbef3e176ec1ffabf7577bbd823b9e7df041ffd5db12a026586276a31", func := "stanza/stanzalaw20.BookLong", spec := "bookLong", inPlace := ["internal/bytealg.IndexByteString", "math.Float64bits", "math.Float64frombits"], unfollowed := true, recurses := true, named := ["math/bits.deBruijn32tab"], plainKeys := false, apart := false, laid := [("math/bits.deBruijn32tab", laid_math_bits_deBruijn32tab)], narrowed := true }
def BookLongUptoSaid : Prop := bookLongUptoRow.holds Tryz.pinned (OpenSpec.upto bookLongSpec)

/-- 'stanzalaw20.BookWhole', WHERE WHAT IT READS IS OF BULK AT MOST 1048576: true; the input reads as it did. -/
def bookWholeUptoRow : OpenClaim := { program := "ytflahpmlcfhpcaagreatdoor", sum := "393bab5cbef3e176ec1ffabf7577bbd823b9e7df041ffd5db12a026586276a31", func := "stanza/stanzalaw20.BookWhole", spec := "bookWhole", inPlace := ["internal/bytealg.IndexByteString", "math.Float64bits", "math.Float64frombits"], unfollowed := true, recurses := true, named := ["math/bits.deBruijn32tab"], plainKeys := false, apart := false, laid := [("math/bits.deBruijn32tab", laid_math_bits_deBruijn32tab)], narrowed := true }
def BookWholeUptoSaid : Prop := bookWholeUptoRow.holds Tryz.pinned (OpenSpec.upto bookWholeSpec)

/-- 'stanzalaw20.BookAgain', WHERE WHAT IT READS IS OF BULK AT MOST 1048576: true; the input reads as it did. -/
def bookAgainUptoRow : OpenClaim := { program := "ytflahpmlcfhpcaagreatdoor", sum := "393bab5cbef3e176ec1ffabf7577bbd823b9e7df041ffd5db12a026586276a31", func := "stanza/stanzalaw20.BookAgain", spec := "bookAgain", inPlace := ["internal/bytealg.IndexByteString", "math.Float64bits", "math.Float64frombits"], unfollowed := true, recurses := true, named := ["math/bits.deBruijn32tab"], plainKeys := false, apart := false, laid := [("math/bits.deBruijn32tab", laid_math_bits_deBruijn32tab)], narrowed := true }
def BookAgainUptoSaid : Prop := bookAgainUptoRow.holds Tryz.pinned (OpenSpec.upto bookAgainSpec)

/-- 'stanzalaw20.BookModes', WHERE WHAT IT READS IS OF BULK AT MOST 1048576: true; the input reads as it did. -/
def bookModesUptoRow : OpenClaim := { program := "ytflahpmlcfhpcaagreatdoor", sum := "393bab5cbef3e176ec1ffabf7577bbd823b9e7df041ffd5db12a026586276a31", func := "stanza/stanzalaw20.BookModes", spec := "bookModes", inPlace := ["internal/bytealg.IndexByteString", "math.Float64bits", "math.Float64frombits"], unfollowed := true, recurses := true, named := ["math/bits.deBruijn32tab"], plainKeys := false, apart := false, laid := [("math/bits.deBruijn32tab", laid_math_bits_deBruijn32tab)], narrowed := true }
def BookModesUptoSaid : Prop := bookModesUptoRow.holds Tryz.pinned (OpenSpec.upto bookModesSpec)

end Rows
end Go.Proofs.YtflahpmlcfhpcaaGreatDoor
