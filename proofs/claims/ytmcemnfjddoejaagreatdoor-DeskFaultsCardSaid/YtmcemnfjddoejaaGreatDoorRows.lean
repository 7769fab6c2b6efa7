/-
  NARROWER THAN 'FOR EVERY INPUT', by the rows' own cells (each row's printed sentence says how): DeskRuns: laid · DeskFaults: laid · DeskPrefix: laid · DeskAsks: laid.
  DERIVED. THE GIVEN ROWS OF THIS SEAT. 4 by the template 'for every input the law returns true; each argument reads behind the call as it read before'; 0 by the template 'total and deterministic' (their statements: YtmcemnfjddoejaaGreatDoorTotals.lean).
  GIVEN WITH THE SEED: the statements are not yours to turn. If you find one false, say at which input.
  Laid BY PROGRAM, IN A SANDBOX (cutbox-rows.mjs): the forced cells as the released guide's own fill.sh prints them over the translation 9fea2c523d9ae87b… (all of the seat's roots in one cut). By AI agents, Wed Nov 11 2026. No macro, syntax, notation, axiom, sorry.
-/
import Derived.Test.YtmcemnfjddoejaaGreatDoorChecked
import GoSem.Claim
import GoSem.ClaimJoined
import GoSem.ClaimMapViews
import Derived.JoinedTies
import Derived.KernelRfl
namespace Go.Proofs.YtmcemnfjddoejaaGreatDoor
/- THE CELL 'sum', in the pinned program and in every row, IS THE sha256 OF THE DUMP (.gsa) THAT YtmcemnfjddoejaaGreatDoorProg.lean LOADS. Nothing in Lean hashes anything: it is a label: what it is worth is what the hold of that sum in a sandbox is worth. -/
noncomputable def Tryz.pinned : Pinned := { name := "ytmcemnfjddoejaagreatdoor", sum := "9fea2c523d9ae87bcfb4f3b7786fbca2e8ace3bf517d132035a543bbbfe26262", checked := Tryz.checked }
namespace Rows
def none {H : Type} : Left H := { results := [], args := [] }

/- WHAT THE LISTED PACKAGE-LEVEL VARIABLES READ AS WHEN THE CALL BEGINS. Each datum BY PROGRAM (the guide's laid-datum.mjs) off the statement by which the dump's own 'gosem.cut.vars' lays the variable. In a bare row this is a premise. The card (YtmcemnfjddoejaaGreatDoorCards.lean) ties it to the program's text. -/
def laid_math_bits_deBruijn32tab {H : Type} : DataW H := .agg [.lit (.int .u8 0), .lit (.int .u8 1), .lit (.int .u8 28), .lit (.int .u8 2), .lit (.int .u8 29), .lit (.int .u8 14), .lit (.int .u8 24), .lit (.int .u8 3), .lit (.int .u8 30), .lit (.int .u8 22), .lit (.int .u8 20), .lit (.int .u8 15), .lit (.int .u8 25), .lit (.int .u8 17), .lit (.int .u8 4), .lit (.int .u8 8), .lit (.int .u8 31), .lit (.int .u8 27), .lit (.int .u8 13), .lit (.int .u8 23), .lit (.int .u8 21), .lit (.int .u8 19), .lit (.int .u8 16), .lit (.int .u8 7), .lit (.int .u8 26), .lit (.int .u8 12), .lit (.int .u8 18), .lit (.int .u8 6), .lit (.int .u8 11), .lit (.int .u8 5), .lit (.int .u8 10), .lit (.int .u8 9)]

/-- 'stanzalaw23.DeskRuns': WHATEVER THE INPUT: true; the input reads as it did. -/
def deskRunsSpec : ChangeSpec := { name := "deskRuns", fn := fun _ => fun
  | [d1, d2, d3, d4, d5] => { results := [.lit (.bool true)], args := [d1, d2, d3, d4, d5] }
  | _ => none }
def deskRunsRow : OpenClaim := { program := "ytmcemnfjddoejaagreatdoor", sum := "9fea2c523d9ae87bcfb4f3b7786fbca2e8ace3bf517d132035a543bbbfe26262", func := "stanza/stanzalaw23.DeskRuns", spec := "deskRuns", inPlace := ["internal/bytealg.IndexByteString", "math.Float64bits", "math.Float64frombits"], unfollowed := true, recurses := true, named := ["math/bits.deBruijn32tab"], plainKeys := false, apart := false, laid := [("math/bits.deBruijn32tab", laid_math_bits_deBruijn32tab)] }
def DeskRunsSaid : Prop := deskRunsRow.holds Tryz.pinned (OpenSpec.ofChange deskRunsSpec)

/-- ITS FALSE NEIGHBOUR: 'it returns false'. Refute it at one input. -/
def deskRunsWrong : ChangeSpec := { name := "deskRuns", fn := fun _ => fun
  | [d1, d2, d3, d4, d5] => { results := [.lit (.bool false)], args := [d1, d2, d3, d4, d5] }
  | _ => none }
def DeskRunsWrongFalsely : Prop := deskRunsRow.holds Tryz.pinned (OpenSpec.ofChange deskRunsWrong)

/-- 'stanzalaw23.DeskFaults': WHATEVER THE INPUT: true; the input reads as it did. -/
def deskFaultsSpec : ChangeSpec := { name := "deskFaults", fn := fun _ => fun
  | [d1, d2, d3, d4, d5] => { results := [.lit (.bool true)], args := [d1, d2, d3, d4, d5] }
  | _ => none }
def deskFaultsRow : OpenClaim := { program := "ytmcemnfjddoejaagreatdoor", sum := "9fea2c523d9ae87bcfb4f3b7786fbca2e8ace3bf517d132035a543bbbfe26262", func := "stanza/stanzalaw23.DeskFaults", spec := "deskFaults", inPlace := ["internal/bytealg.IndexByteString", "math.Float64bits", "math.Float64frombits"], unfollowed := true, recurses := true, named := ["math/bits.deBruijn32tab"], plainKeys := false, apart := false, laid := [("math/bits.deBruijn32tab", laid_math_bits_deBruijn32tab)] }
def DeskFaultsSaid : Prop := deskFaultsRow.holds Tryz.pinned (OpenSpec.ofChange deskFaultsSpec)

/-- ITS FALSE NEIGHBOUR: 'it returns false'. Refute it at one input. -/
def deskFaultsWrong : ChangeSpec := { name := "deskFaults", fn := fun _ => fun
  | [d1, d2, d3, d4, d5] => { results := [.lit (.bool false)], args := [d1, d2, d3, d4, d5] }
  | _ => none }
def DeskFaultsWrongFalsely : Prop := deskFaultsRow.holds Tryz.pinned (OpenSpec.ofChange deskFaultsWrong)

/-- 'stanzalaw23.DeskPrefix': WHATEVER THE INPUT: true; the input reads as it did. -/
def deskPrefixSpec : ChangeSpec := { name := "deskPrefix", fn := fun _ => fun
  | [d1, d2, d3, d4] => { results := [.lit (.bool true)], args := [d1, d2, d3, d4] }
  | _ => none }
def deskPrefixRow : OpenClaim := { program := "ytmcemnfjddoejaagreatdoor", sum := "9fea2c523d9ae87bcfb4f3b7786fbca2e8ace3bf517d132035a543bbbfe26262", func := "stanza/stanzalaw23.DeskPrefix", spec := "deskPrefix", inPlace := ["internal/bytealg.IndexByteString", "math.Float64bits", "math.Float64frombits"], unfollowed := true, recurses := true, named := ["math/bits.deBruijn32tab"], plainKeys := false, apart := false, laid := [("math/bits.deBruijn32tab", laid_math_bits_deBruijn32tab)] }
def DeskPrefixSaid : Prop := deskPrefixRow.holds Tryz.pinned (OpenSpec.ofChange deskPrefixSpec)

/-- ITS FALSE NEIGHBOUR: 'it returns false'. Refute it at one input. -/
def deskPrefixWrong : ChangeSpec := { name := "deskPrefix", fn := fun _ => fun
  | [d1, d2, d3, d4] => { results := [.lit (.bool false)], args := [d1, d2, d3, d4] }
  | _ => none }
def DeskPrefixWrongFalsely : Prop := deskPrefixRow.holds Tryz.pinned (OpenSpec.ofChange deskPrefixWrong)

/-- 'stanzalaw23.DeskAsks': WHATEVER THE INPUT: true; the input reads as it did. -/
def deskAsksSpec : ChangeSpec := { name := "deskAsks", fn := fun _ => fun
  | [d1, d2, d3, d4] => { results := [.lit (.bool true)], args := [d1, d2, d3, d4] }
  | _ => none }
def deskAsksRow : OpenClaim := { program := "ytmcemnfjddoejaagreatdoor", sum := "9fea2c523d9ae87bcfb4f3b7786fbca2e8ace3bf517d132035a543bbbfe26262", func := "stanza/stanzalaw23.DeskAsks", spec := "deskAsks", inPlace := ["internal/bytealg.IndexByteString", "math.Float64bits", "math.Float64frombits"], unfollowed := true, recurses := true, named := ["math/bits.deBruijn32tab"], plainKeys := false, apart := false, laid := [("math/bits.deBruijn32tab", laid_math_bits_deBruijn32tab)] }
def DeskAsksSaid : Prop := deskAsksRow.holds Tryz.pinned (OpenSpec.ofChange deskAsksSpec)

/-- ITS FALSE NEIGHBOUR: 'it returns false'. Refute it at one input. -/
def deskAsksWrong : ChangeSpec := { name := "deskAsks", fn := fun _ => fun
  | [d1, d2, d3, d4] => { results := [.lit (.bool false)], args := [d1, d2, d3, d4] }
  | _ => none }
def DeskAsksWrongFalsely : Prop := deskAsksRow.holds Tryz.pinned (OpenSpec.ofChange deskAsksWrong)

/- THE SECOND FORM. 'bulk': how many values and letters a reading holds, each counted each time it is reached (what is shared counts as often as it is met; a slice's spare places count too). A statement '..UptoSaid' is the law's where the arguments, and the package variables that the reading takes, are together of bulk at most 1048576: NARROWER than '..Said'. Prove '..Said' where nothing that the law and all that it calls make is longer than what came in: it says more and counts as full. Else prove '..UptoSaid'. A law counts once. -/
mutual
def uptoBulk {H : Type} : DataW H → Nat
  | .lit (.string bytes) => bytes.length + 1
  | .lit _ => 1
  | .nil => 1
  | .ptr d => uptoBulk d + 1
  | .slice elems spare => uptoBulkAll elems + uptoBulkAll spare + 1
  | .agg parts => uptoBulkAll parts + 1
  | .iface _ d => uptoBulk d + 1
  | .map entries => uptoBulkEntries entries + 1
  | .held _ => 1
def uptoBulkAll {H : Type} : List (DataW H) → Nat
  | [] => 0
  | d :: r => uptoBulk d + uptoBulkAll r
def uptoBulkEntries {H : Type} : List (Lit × DataW H) → Nat
  | [] => 0
  | x :: r => uptoBulkEntry x + uptoBulkEntries r
def uptoBulkEntry {H : Type} : Lit × DataW H → Nat
  | (.string bytes, d) => bytes.length + uptoBulk d + 1
  | (_, d) => uptoBulk d + 1
 end
def uptoSmall : (H : Type) → List (DataW H) → Bool := fun _ ds => decide (uptoBulkAll ds ≤ 1048576)
def OpenSpec.upto (s : _root_.Go.ChangeSpec) : _root_.Go.OpenSpec := { _root_.Go.OpenSpec.ofChange s with cond := some uptoSmall }

/-- 'stanzalaw23.DeskRuns', WHERE WHAT IT READS IS OF BULK AT MOST 1048576: true; the input reads as it did. -/
def deskRunsUptoRow : OpenClaim := { program := "ytmcemnfjddoejaagreatdoor", sum := "9fea2c523d9ae87bcfb4f3b7786fbca2e8ace3bf517d132035a543bbbfe26262", func := "stanza/stanzalaw23.DeskRuns", spec := "deskRuns", inPlace := ["internal/bytealg.IndexByteString", "math.Float64bits", "math.Float64frombits"], unfollowed := true, recurses := true, named := ["math/bits.deBruijn32tab"], plainKeys := false, apart := false, laid := [("math/bits.deBruijn32tab", laid_math_bits_deBruijn32tab)], narrowed := true }
def DeskRunsUptoSaid : Prop := deskRunsUptoRow.holds Tryz.pinned (OpenSpec.upto deskRunsSpec)

/-- 'stanzalaw23.DeskFaults', WHERE WHAT IT READS IS OF BULK AT MOST 1048576: true; the input reads as it did. -/
def deskFaultsUptoRow : OpenClaim := { program := "ytmcemnfjddoejaagreatdoor", sum := "9fea2c523d9ae87bcfb4f3b7786fbca2e8ace3bf517d132035a543bbbfe26262", func := "stanza/stanzalaw23.DeskFaults", spec := "deskFaults", inPlace := ["internal/bytealg.IndexByteString", "math.Float64bits", "math.Float64frombits"], unfollowed := true, recurses := true, named := ["math/bits.deBruijn32tab"], plainKeys := false, apart := false, laid := [("math/bits.deBruijn32tab", laid_math_bits_deBruijn32tab)], narrowed := true }
def DeskFaultsUptoSaid : Prop := deskFaultsUptoRow.holds Tryz.pinned (OpenSpec.upto deskFaultsSpec)

/-- 'stanzalaw23.DeskPrefix', WHERE WHAT IT READS IS OF BULK AT MOST 1048576: true; the input reads as it did. -/
def deskPrefixUptoRow : OpenClaim := { program := "ytmcemnfjddoejaagreatdoor", sum := "9fea2c523d9ae87bcfb4f3b7786fbca2e8ace3bf517d132035a543bbbfe26262", func := "stanza/stanzalaw23.DeskPrefix", spec := "deskPrefix", inPlace := ["internal/bytealg.IndexByteString", "math.Float64bits", "math.Float64frombits"], unfollowed := true, recurses := true, named := ["math/bits.deBruijn32tab"], plainKeys := false, apart := false, laid := [("math/bits.deBruijn32tab", laid_math_bits_deBruijn32tab)], narrowed := true }
def DeskPrefixUptoSaid : Prop := deskPrefixUptoRow.holds Tryz.pinned (OpenSpec.upto deskPrefixSpec)

/-- 'stanzalaw23.DeskAsks', WHERE WHAT IT READS IS OF BULK AT MOST 1048576: true; the input reads as it did. -/
def deskAsksUptoRow : OpenClaim := { program := "ytmcemnfjddoejaagreatdoor", sum := "9fea2c523d9ae87bcfb4f3b7786fbca2e8ace3bf517d132035a543bbbfe26262", func := "stanza/stanzalaw23.DeskAsks", spec := "deskAsks", inPlace := ["internal/bytealg.IndexByteString", "math.Float64bits", "math.Float64frombits"], unfollowed := true, recurses := true, named := ["math/bits.deBruijn32tab"], plainKeys := false, apart := false, laid := [("math/bits.deBruijn32tab", laid_math_bits_deBruijn32tab)], narrowed := true }
def DeskAsksUptoSaid : Prop := deskAsksUptoRow.holds Tryz.pinned (OpenSpec.upto deskAsksSpec)

end Rows
end Go.Proofs.YtmcemnfjddoejaaGreatDoor
