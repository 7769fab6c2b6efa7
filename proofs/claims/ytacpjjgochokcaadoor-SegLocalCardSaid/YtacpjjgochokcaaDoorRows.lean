/-
  NARROWER THAN 'FOR EVERY INPUT', by the rows' own cells (each row's printed sentence says how): SegRuns: laid · SegOrder: laid · SegJoins: laid · SegLocal: laid · SegFar: laid.
  DERIVED. THE GIVEN ROWS OF THIS SEAT. 5 by the template 'for every input the law returns true; each argument reads behind the call as it read before'; 0 by the template 'total and deterministic' (their statements: YtacpjjgochokcaaDoorTotals.lean).
  GIVEN WITH THE SEED: the statements are not yours to turn. If you find one false, say at which input.
  Laid BY PROGRAM, IN A SANDBOX (cutbox-rows.mjs): the forced cells as the released guide's own fill.sh prints them over the translation f723543dd5707f8c… (all of the seat's roots in one cut). By AI agents, Wed Nov 11 2026. No macro, syntax, notation, axiom, sorry.
-/
import Derived.Test.YtacpjjgochokcaaDoorChecked
import GoSem.Claim
import GoSem.ClaimJoined
import GoSem.ClaimMapViews
import Derived.JoinedTies
import Derived.KernelRfl
namespace Go.Proofs.YtacpjjgochokcaaDoor
/- THE CELL 'sum', in the pinned program and in every row, IS THE sha256 OF THE DUMP (.gsa) THAT YtacpjjgochokcaaDoorProg.lean LOADS. Nothing in Lean hashes anything: it is a label: what it is worth is what the hold of that sum in a sandbox is worth. -/
noncomputable def Tryd.pinned : Pinned := { name := "ytacpjjgochokcaadoor", sum := "f723543dd5707f8cc3e400b976c305375a0172b6096c312e94e5310d3b33a486", checked := Tryd.checked }
namespace Rows
def none {H : Type} : Left H := { results := [], args := [] }

/- WHAT THE LISTED PACKAGE-LEVEL VARIABLES READ AS WHEN THE CALL BEGINS. Each datum BY PROGRAM (the guide's laid-datum.mjs) off the statement by which the dump's own 'gosem.cut.vars' lays the variable. In a bare row this is a premise. The card (YtacpjjgochokcaaDoorCards.lean) ties it to the program's text. -/
def laid_math_bits_deBruijn32tab {H : Type} : DataW H := .agg [.lit (.int .u8 0), .lit (.int .u8 1), .lit (.int .u8 28), .lit (.int .u8 2), .lit (.int .u8 29), .lit (.int .u8 14), .lit (.int .u8 24), .lit (.int .u8 3), .lit (.int .u8 30), .lit (.int .u8 22), .lit (.int .u8 20), .lit (.int .u8 15), .lit (.int .u8 25), .lit (.int .u8 17), .lit (.int .u8 4), .lit (.int .u8 8), .lit (.int .u8 31), .lit (.int .u8 27), .lit (.int .u8 13), .lit (.int .u8 23), .lit (.int .u8 21), .lit (.int .u8 19), .lit (.int .u8 16), .lit (.int .u8 7), .lit (.int .u8 26), .lit (.int .u8 12), .lit (.int .u8 18), .lit (.int .u8 6), .lit (.int .u8 11), .lit (.int .u8 5), .lit (.int .u8 10), .lit (.int .u8 9)]

/-- 'stanzalaw06.SegRuns': WHATEVER THE INPUT: true; the input reads as it did. -/
def segRunsSpec : ChangeSpec := { name := "segRuns", fn := fun _ => fun
  | [d1, d2, d3] => { results := [.lit (.bool true)], args := [d1, d2, d3] }
  | _ => none }
def segRunsRow : OpenClaim := { program := "ytacpjjgochokcaadoor", sum := "f723543dd5707f8cc3e400b976c305375a0172b6096c312e94e5310d3b33a486", func := "stanza/stanzalaw06.SegRuns", spec := "segRuns", inPlace := ["internal/bytealg.IndexByteString"], unfollowed := true, recurses := true, named := ["math/bits.deBruijn32tab"], plainKeys := false, apart := false, laid := [("math/bits.deBruijn32tab", laid_math_bits_deBruijn32tab)] }
def SegRunsSaid : Prop := segRunsRow.holds Tryd.pinned (OpenSpec.ofChange segRunsSpec)

/-- ITS FALSE NEIGHBOUR: 'it returns false'. Refute it at one input. -/
def segRunsWrong : ChangeSpec := { name := "segRuns", fn := fun _ => fun
  | [d1, d2, d3] => { results := [.lit (.bool false)], args := [d1, d2, d3] }
  | _ => none }
def SegRunsWrongFalsely : Prop := segRunsRow.holds Tryd.pinned (OpenSpec.ofChange segRunsWrong)

/-- 'stanzalaw06.SegOrder': WHATEVER THE INPUT: true; the input reads as it did. -/
def segOrderSpec : ChangeSpec := { name := "segOrder", fn := fun _ => fun
  | [d1, d2, d3] => { results := [.lit (.bool true)], args := [d1, d2, d3] }
  | _ => none }
def segOrderRow : OpenClaim := { program := "ytacpjjgochokcaadoor", sum := "f723543dd5707f8cc3e400b976c305375a0172b6096c312e94e5310d3b33a486", func := "stanza/stanzalaw06.SegOrder", spec := "segOrder", inPlace := ["internal/bytealg.IndexByteString"], unfollowed := true, recurses := true, named := ["math/bits.deBruijn32tab"], plainKeys := false, apart := false, laid := [("math/bits.deBruijn32tab", laid_math_bits_deBruijn32tab)] }
def SegOrderSaid : Prop := segOrderRow.holds Tryd.pinned (OpenSpec.ofChange segOrderSpec)

/-- ITS FALSE NEIGHBOUR: 'it returns false'. Refute it at one input. -/
def segOrderWrong : ChangeSpec := { name := "segOrder", fn := fun _ => fun
  | [d1, d2, d3] => { results := [.lit (.bool false)], args := [d1, d2, d3] }
  | _ => none }
def SegOrderWrongFalsely : Prop := segOrderRow.holds Tryd.pinned (OpenSpec.ofChange segOrderWrong)

/-- 'stanzalaw06.SegJoins': WHATEVER THE INPUT: true; the input reads as it did. -/
def segJoinsSpec : ChangeSpec := { name := "segJoins", fn := fun _ => fun
  | [d1, d2, d3] => { results := [.lit (.bool true)], args := [d1, d2, d3] }
  | _ => none }
def segJoinsRow : OpenClaim := { program := "ytacpjjgochokcaadoor", sum := "f723543dd5707f8cc3e400b976c305375a0172b6096c312e94e5310d3b33a486", func := "stanza/stanzalaw06.SegJoins", spec := "segJoins", inPlace := ["internal/bytealg.IndexByteString"], unfollowed := true, recurses := true, named := ["math/bits.deBruijn32tab"], plainKeys := false, apart := false, laid := [("math/bits.deBruijn32tab", laid_math_bits_deBruijn32tab)] }
def SegJoinsSaid : Prop := segJoinsRow.holds Tryd.pinned (OpenSpec.ofChange segJoinsSpec)

/-- ITS FALSE NEIGHBOUR: 'it returns false'. Refute it at one input. -/
def segJoinsWrong : ChangeSpec := { name := "segJoins", fn := fun _ => fun
  | [d1, d2, d3] => { results := [.lit (.bool false)], args := [d1, d2, d3] }
  | _ => none }
def SegJoinsWrongFalsely : Prop := segJoinsRow.holds Tryd.pinned (OpenSpec.ofChange segJoinsWrong)

/-- 'stanzalaw06.SegLocal': WHATEVER THE INPUT: true; the input reads as it did. -/
def segLocalSpec : ChangeSpec := { name := "segLocal", fn := fun _ => fun
  | [d1, d2] => { results := [.lit (.bool true)], args := [d1, d2] }
  | _ => none }
def segLocalRow : OpenClaim := { program := "ytacpjjgochokcaadoor", sum := "f723543dd5707f8cc3e400b976c305375a0172b6096c312e94e5310d3b33a486", func := "stanza/stanzalaw06.SegLocal", spec := "segLocal", inPlace := ["internal/bytealg.IndexByteString"], unfollowed := true, recurses := true, named := ["math/bits.deBruijn32tab"], plainKeys := false, apart := false, laid := [("math/bits.deBruijn32tab", laid_math_bits_deBruijn32tab)] }
def SegLocalSaid : Prop := segLocalRow.holds Tryd.pinned (OpenSpec.ofChange segLocalSpec)

/-- ITS FALSE NEIGHBOUR: 'it returns false'. Refute it at one input. -/
def segLocalWrong : ChangeSpec := { name := "segLocal", fn := fun _ => fun
  | [d1, d2] => { results := [.lit (.bool false)], args := [d1, d2] }
  | _ => none }
def SegLocalWrongFalsely : Prop := segLocalRow.holds Tryd.pinned (OpenSpec.ofChange segLocalWrong)

/-- 'stanzalaw06.SegFar': WHATEVER THE INPUT: true; the input reads as it did. -/
def segFarSpec : ChangeSpec := { name := "segFar", fn := fun _ => fun
  | [d1, d2] => { results := [.lit (.bool true)], args := [d1, d2] }
  | _ => none }
def segFarRow : OpenClaim := { program := "ytacpjjgochokcaadoor", sum := "f723543dd5707f8cc3e400b976c305375a0172b6096c312e94e5310d3b33a486", func := "stanza/stanzalaw06.SegFar", spec := "segFar", inPlace := ["internal/bytealg.IndexByteString"], unfollowed := true, recurses := true, named := ["math/bits.deBruijn32tab"], plainKeys := false, apart := false, laid := [("math/bits.deBruijn32tab", laid_math_bits_deBruijn32tab)] }
def SegFarSaid : Prop := segFarRow.holds Tryd.pinned (OpenSpec.ofChange segFarSpec)

/-- ITS FALSE NEIGHBOUR: 'it returns false'. Refute it at one input. -/
def segFarWrong : ChangeSpec := { name := "segFar", fn := fun _ => fun
  | [d1, d2] => { results := [.lit (.bool false)], args := [d1, d2] }
  | _ => none }
def SegFarWrongFalsely : Prop := segFarRow.holds Tryd.pinned (OpenSpec.ofChange segFarWrong)

/- THE SECOND FORM. 'bulk': how many values and letters a reading holds, each counted each time it is reached (what is shared counts as often as it is met; a slice's spare places count too). A statement '..UptoSaid' is the law's where the arguments, and the package variables that the reading takes, are together of bulk at most 1048576: NARROWER than '..Said'. Prove '..Said' where nothing that the law and all that it calls make is longer than what came in: it says more and counts as full. Else prove '..UptoSaid'. A law counts once. -/
mutual
def uptoBulk {H : Type} : DataW H → Nat
  | .lit (.string bytes) => bytes.length + 1
  | .lit _ => 1
  | .nil => 1
  | .ptr d => uptoBulk d + 1
  | .slice elems spare => uptoBulkAll elems + uptoBulkAll spare + 1
  | .agg parts => uptoBulkAll parts + 1
  | .iface _ d => uptoBulk d + 1
  | .map entries => uptoBulkEntries entries + 1
  | .held _ => 1
def uptoBulkAll {H : Type} : List (DataW H) → Nat
  | [] => 0
  | d :: r => uptoBulk d + uptoBulkAll r
def uptoBulkEntries {H : Type} : List (Lit × DataW H) → Nat
  | [] => 0
  | x :: r => uptoBulkEntry x + uptoBulkEntries r
def uptoBulkEntry {H : Type} : Lit × DataW H → Nat
  | (.string bytes, d) => bytes.length + uptoBulk d + 1
  | (_, d) => uptoBulk d + 1
 end
def uptoSmall : (H : Type) → List (DataW H) → Bool := fun _ ds => decide (uptoBulkAll ds ≤ 1048576)
def OpenSpec.upto (s : _root_.Go.ChangeSpec) : _root_.Go.OpenSpec := { _root_.Go.OpenSpec.ofChange s with cond := some uptoSmall }

/-- 'stanzalaw06.SegRuns', WHERE WHAT IT READS IS OF BULK AT MOST 1048576: true; the input reads as it did. -/
def segRunsUptoRow : OpenClaim := { program := "ytacpjjgochokcaadoor", sum := "f723543dd5707f8cc3e400b976c305375a0172b6096c312e94e5310d3b33a486", func := "stanza/stanzalaw06.SegRuns", spec := "segRuns", inPlace := ["internal/bytealg.IndexByteString"], unfollowed := true, recurses := true, named := ["math/bits.deBruijn32tab"], plainKeys := false, apart := false, laid := [("math/bits.deBruijn32tab", laid_math_bits_deBruijn32tab)], narrowed := true }
def SegRunsUptoSaid : Prop := segRunsUptoRow.holds Tryd.pinned (OpenSpec.upto segRunsSpec)

/-- 'stanzalaw06.SegOrder', WHERE WHAT IT READS IS OF BULK AT MOST 1048576: true; the input reads as it did. -/
def segOrderUptoRow : OpenClaim := { program := "ytacpjjgochokcaadoor", sum := "f723543dd5707f8cc3e400b976c305375a0172b6096c312e94e5310d3b33a486", func := "stanza/stanzalaw06.SegOrder", spec := "segOrder", inPlace := ["internal/bytealg.IndexByteString"], unfollowed := true, recurses := true, named := ["math/bits.deBruijn32tab"], plainKeys := false, apart := false, laid := [("math/bits.deBruijn32tab", laid_math_bits_deBruijn32tab)], narrowed := true }
def SegOrderUptoSaid : Prop := segOrderUptoRow.holds Tryd.pinned (OpenSpec.upto segOrderSpec)

/-- 'stanzalaw06.SegJoins', WHERE WHAT IT READS IS OF BULK AT MOST 1048576: true; the input reads as it did. -/
def segJoinsUptoRow : OpenClaim := { program := "ytacpjjgochokcaadoor", sum := "f723543dd5707f8cc3e400b976c305375a0172b6096c312e94e5310d3b33a486", func := "stanza/stanzalaw06.SegJoins", spec := "segJoins", inPlace := ["internal/bytealg.IndexByteString"], unfollowed := true, recurses := true, named := ["math/bits.deBruijn32tab"], plainKeys := false, apart := false, laid := [("math/bits.deBruijn32tab", laid_math_bits_deBruijn32tab)], narrowed := true }
def SegJoinsUptoSaid : Prop := segJoinsUptoRow.holds Tryd.pinned (OpenSpec.upto segJoinsSpec)

/-- 'stanzalaw06.SegLocal', WHERE WHAT IT READS IS OF BULK AT MOST 1048576: true; the input reads as it did. -/
def segLocalUptoRow : OpenClaim := { program := "ytacpjjgochokcaadoor", sum := "f723543dd5707f8cc3e400b976c305375a0172b6096c312e94e5310d3b33a486", func := "stanza/stanzalaw06.SegLocal", spec := "segLocal", inPlace := ["internal/bytealg.IndexByteString"], unfollowed := true, recurses := true, named := ["math/bits.deBruijn32tab"], plainKeys := false, apart := false, laid := [("math/bits.deBruijn32tab", laid_math_bits_deBruijn32tab)], narrowed := true }
def SegLocalUptoSaid : Prop := segLocalUptoRow.holds Tryd.pinned (OpenSpec.upto segLocalSpec)

/-- 'stanzalaw06.SegFar', WHERE WHAT IT READS IS OF BULK AT MOST 1048576: true; the input reads as it did. -/
def segFarUptoRow : OpenClaim := { program := "ytacpjjgochokcaadoor", sum := "f723543dd5707f8cc3e400b976c305375a0172b6096c312e94e5310d3b33a486", func := "stanza/stanzalaw06.SegFar", spec := "segFar", inPlace := ["internal/bytealg.IndexByteString"], unfollowed := true, recurses := true, named := ["math/bits.deBruijn32tab"], plainKeys := false, apart := false, laid := [("math/bits.deBruijn32tab", laid_math_bits_deBruijn32tab)], narrowed := true }
def SegFarUptoSaid : Prop := segFarUptoRow.holds Tryd.pinned (OpenSpec.upto segFarSpec)

end Rows
end Go.Proofs.YtacpjjgochokcaaDoor
