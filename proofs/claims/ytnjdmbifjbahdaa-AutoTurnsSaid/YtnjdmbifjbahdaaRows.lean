/-
  No cell of these rows narrows 'for every input' (looked for: loops, veiled, ifaces, maps, wideKeys, modest, calm, conditions, laid).
  DERIVED. THE GIVEN ROWS OF THIS SEAT. 5 by the template 'for every input the law returns true; each argument reads behind the call as it read before'; 0 by the template 'total and deterministic' (their statements: YtnjdmbifjbahdaaTotals.lean).
  GIVEN WITH THE SEED: the statements are not yours to turn. If you find one false, say at which input.
  Laid BY PROGRAM, IN A SANDBOX (cutbox-rows.mjs): the forced cells as the released guide's own fill.sh prints them over the translation 64c584c494e87749… (all of the seat's roots in one cut). By AI agents, Wed Nov 11 2026. No macro, syntax, notation, axiom, sorry.
-/
import Derived.Test.YtnjdmbifjbahdaaChecked
import GoSem.Claim
import GoSem.ClaimJoined
import GoSem.ClaimMapViews
import Derived.JoinedTies
import Derived.KernelRfl
namespace Go.Proofs.Ytnjdmbifjbahdaa
/- THE CELL 'sum', in the pinned program and in every row, IS THE sha256 OF THE DUMP (.gsa) THAT YtnjdmbifjbahdaaProg.lean LOADS. Nothing in Lean hashes anything: it is a label: what it is worth is what the hold of that sum in a sandbox is worth. -/
noncomputable def Try.pinned : Pinned := { name := "ytnjdmbifjbahdaa", sum := "64c584c494e877495fbba6853271a81eeca28d21b653d44a63643e047fe83d65", checked := Try.checked }
namespace Rows
def none {H : Type} : Left H := { results := [], args := [] }

/-- 'stanzalaw04.AutoLimits': WHATEVER THE INPUT: true; the input reads as it did. -/
def autoLimitsSpec : ChangeSpec := { name := "autoLimits", fn := fun _ => fun
  | [d] => { results := [.lit (.bool true)], args := [d] }
  | _ => none }
def autoLimitsRow : OpenClaim := { program := "ytnjdmbifjbahdaa", sum := "64c584c494e877495fbba6853271a81eeca28d21b653d44a63643e047fe83d65", func := "stanza/stanzalaw04.AutoLimits", spec := "autoLimits", recurses := true, plainKeys := false, apart := false }
def AutoLimitsSaid : Prop := autoLimitsRow.holds Try.pinned (OpenSpec.ofChange autoLimitsSpec)

/-- ITS FALSE NEIGHBOUR: 'it returns false'. Refute it at one input. -/
def autoLimitsWrong : ChangeSpec := { name := "autoLimits", fn := fun _ => fun
  | [d] => { results := [.lit (.bool false)], args := [d] }
  | _ => none }
def AutoLimitsWrongFalsely : Prop := autoLimitsRow.holds Try.pinned (OpenSpec.ofChange autoLimitsWrong)

/-- 'stanzalaw04.AutoRuns': WHATEVER THE INPUT: true; the input reads as it did. -/
def autoRunsSpec : ChangeSpec := { name := "autoRuns", fn := fun _ => fun
  | [d1, d2, d3] => { results := [.lit (.bool true)], args := [d1, d2, d3] }
  | _ => none }
def autoRunsRow : OpenClaim := { program := "ytnjdmbifjbahdaa", sum := "64c584c494e877495fbba6853271a81eeca28d21b653d44a63643e047fe83d65", func := "stanza/stanzalaw04.AutoRuns", spec := "autoRuns", recurses := true, plainKeys := false, apart := false }
def AutoRunsSaid : Prop := autoRunsRow.holds Try.pinned (OpenSpec.ofChange autoRunsSpec)

/-- ITS FALSE NEIGHBOUR: 'it returns false'. Refute it at one input. -/
def autoRunsWrong : ChangeSpec := { name := "autoRuns", fn := fun _ => fun
  | [d1, d2, d3] => { results := [.lit (.bool false)], args := [d1, d2, d3] }
  | _ => none }
def AutoRunsWrongFalsely : Prop := autoRunsRow.holds Try.pinned (OpenSpec.ofChange autoRunsWrong)

/-- 'stanzalaw04.AutoTurns': WHATEVER THE INPUT: true; the input reads as it did. -/
def autoTurnsSpec : ChangeSpec := { name := "autoTurns", fn := fun _ => fun
  | [d1, d2] => { results := [.lit (.bool true)], args := [d1, d2] }
  | _ => none }
def autoTurnsRow : OpenClaim := { program := "ytnjdmbifjbahdaa", sum := "64c584c494e877495fbba6853271a81eeca28d21b653d44a63643e047fe83d65", func := "stanza/stanzalaw04.AutoTurns", spec := "autoTurns", inPlace := ["internal/bytealg.IndexByteString"], unfollowed := true, recurses := true, plainKeys := false, apart := false }
def AutoTurnsSaid : Prop := autoTurnsRow.holds Try.pinned (OpenSpec.ofChange autoTurnsSpec)

/-- ITS FALSE NEIGHBOUR: 'it returns false'. Refute it at one input. -/
def autoTurnsWrong : ChangeSpec := { name := "autoTurns", fn := fun _ => fun
  | [d1, d2] => { results := [.lit (.bool false)], args := [d1, d2] }
  | _ => none }
def AutoTurnsWrongFalsely : Prop := autoTurnsRow.holds Try.pinned (OpenSpec.ofChange autoTurnsWrong)

/-- 'stanzalaw04.AutoMatches': WHATEVER THE INPUT: true; the input reads as it did. -/
def autoMatchesSpec : ChangeSpec := { name := "autoMatches", fn := fun _ => fun
  | [d1, d2] => { results := [.lit (.bool true)], args := [d1, d2] }
  | _ => none }
def autoMatchesRow : OpenClaim := { program := "ytnjdmbifjbahdaa", sum := "64c584c494e877495fbba6853271a81eeca28d21b653d44a63643e047fe83d65", func := "stanza/stanzalaw04.AutoMatches", spec := "autoMatches", inPlace := ["internal/bytealg.IndexByteString"], unfollowed := true, recurses := true, plainKeys := false, apart := false }
def AutoMatchesSaid : Prop := autoMatchesRow.holds Try.pinned (OpenSpec.ofChange autoMatchesSpec)

/-- ITS FALSE NEIGHBOUR: 'it returns false'. Refute it at one input. -/
def autoMatchesWrong : ChangeSpec := { name := "autoMatches", fn := fun _ => fun
  | [d1, d2] => { results := [.lit (.bool false)], args := [d1, d2] }
  | _ => none }
def AutoMatchesWrongFalsely : Prop := autoMatchesRow.holds Try.pinned (OpenSpec.ofChange autoMatchesWrong)

/-- 'stanzalaw04.AutoMore': WHATEVER THE INPUT: true; the input reads as it did. -/
def autoMoreSpec : ChangeSpec := { name := "autoMore", fn := fun _ => fun
  | [d1, d2, d3] => { results := [.lit (.bool true)], args := [d1, d2, d3] }
  | _ => none }
def autoMoreRow : OpenClaim := { program := "ytnjdmbifjbahdaa", sum := "64c584c494e877495fbba6853271a81eeca28d21b653d44a63643e047fe83d65", func := "stanza/stanzalaw04.AutoMore", spec := "autoMore", inPlace := ["internal/bytealg.IndexByteString"], unfollowed := true, recurses := true, plainKeys := false, apart := false }
def AutoMoreSaid : Prop := autoMoreRow.holds Try.pinned (OpenSpec.ofChange autoMoreSpec)

/-- ITS FALSE NEIGHBOUR: 'it returns false'. Refute it at one input. -/
def autoMoreWrong : ChangeSpec := { name := "autoMore", fn := fun _ => fun
  | [d1, d2, d3] => { results := [.lit (.bool false)], args := [d1, d2, d3] }
  | _ => none }
def AutoMoreWrongFalsely : Prop := autoMoreRow.holds Try.pinned (OpenSpec.ofChange autoMoreWrong)

/- THE SECOND FORM. 'bulk': how many values and letters a reading holds, each counted each time it is reached (what is shared counts as often as it is met; a slice's spare places count too). A statement '..UptoSaid' is the law's where the arguments, and the package variables that the reading takes, are together of bulk at most 1048576: NARROWER than '..Said'. Prove '..Said' where nothing that the law and all that it calls make is longer than what came in: it says more and counts as full. Else prove '..UptoSaid'. A law counts once. -/
mutual
def uptoBulk {H : Type} : DataW H → Nat
  | .lit (.string bytes) => bytes.length + 1
  | .lit _ => 1
  | .nil => 1
  | .ptr d => uptoBulk d + 1
  | .slice elems spare => uptoBulkAll elems + uptoBulkAll spare + 1
  | .agg parts => uptoBulkAll parts + 1
  | .iface _ d => uptoBulk d + 1
  | .map entries => uptoBulkEntries entries + 1
  | .held _ => 1
def uptoBulkAll {H : Type} : List (DataW H) → Nat
  | [] => 0
  | d :: r => uptoBulk d + uptoBulkAll r
def uptoBulkEntries {H : Type} : List (Lit × DataW H) → Nat
  | [] => 0
  | x :: r => uptoBulkEntry x + uptoBulkEntries r
def uptoBulkEntry {H : Type} : Lit × DataW H → Nat
  | (.string bytes, d) => bytes.length + uptoBulk d + 1
  | (_, d) => uptoBulk d + 1
 end
def uptoSmall : (H : Type) → List (DataW H) → Bool := fun _ ds => decide (uptoBulkAll ds ≤ 1048576)
def OpenSpec.upto (s : _root_.Go.ChangeSpec) : _root_.Go.OpenSpec := { _root_.Go.OpenSpec.ofChange s with cond := some uptoSmall }

/-- 'stanzalaw04.AutoLimits', WHERE WHAT IT READS IS OF BULK AT MOST 1048576: true; the input reads as it did. -/
def autoLimitsUptoRow : OpenClaim := { program := "ytnjdmbifjbahdaa", sum := "64c584c494e877495fbba6853271a81eeca28d21b653d44a63643e047fe83d65", func := "stanza/stanzalaw04.AutoLimits", spec := "autoLimits", recurses := true, plainKeys := false, apart := false, narrowed := true }
def AutoLimitsUptoSaid : Prop := autoLimitsUptoRow.holds Try.pinned (OpenSpec.upto autoLimitsSpec)

/-- 'stanzalaw04.AutoRuns', WHERE WHAT IT READS IS OF BULK AT MOST 1048576: true; the input reads as it did. -/
def autoRunsUptoRow : OpenClaim := { program := "ytnjdmbifjbahdaa", sum := "64c584c494e877495fbba6853271a81eeca28d21b653d44a63643e047fe83d65", func := "stanza/stanzalaw04.AutoRuns", spec := "autoRuns", recurses := true, plainKeys := false, apart := false, narrowed := true }
def AutoRunsUptoSaid : Prop := autoRunsUptoRow.holds Try.pinned (OpenSpec.upto autoRunsSpec)

/-- 'stanzalaw04.AutoTurns', WHERE WHAT IT READS IS OF BULK AT MOST 1048576: true; the input reads as it did. -/
def autoTurnsUptoRow : OpenClaim := { program := "ytnjdmbifjbahdaa", sum := "64c584c494e877495fbba6853271a81eeca28d21b653d44a63643e047fe83d65", func := "stanza/stanzalaw04.AutoTurns", spec := "autoTurns", inPlace := ["internal/bytealg.IndexByteString"], unfollowed := true, recurses := true, plainKeys := false, apart := false, narrowed := true }
def AutoTurnsUptoSaid : Prop := autoTurnsUptoRow.holds Try.pinned (OpenSpec.upto autoTurnsSpec)

/-- 'stanzalaw04.AutoMatches', WHERE WHAT IT READS IS OF BULK AT MOST 1048576: true; the input reads as it did. -/
def autoMatchesUptoRow : OpenClaim := { program := "ytnjdmbifjbahdaa", sum := "64c584c494e877495fbba6853271a81eeca28d21b653d44a63643e047fe83d65", func := "stanza/stanzalaw04.AutoMatches", spec := "autoMatches", inPlace := ["internal/bytealg.IndexByteString"], unfollowed := true, recurses := true, plainKeys := false, apart := false, narrowed := true }
def AutoMatchesUptoSaid : Prop := autoMatchesUptoRow.holds Try.pinned (OpenSpec.upto autoMatchesSpec)

/-- 'stanzalaw04.AutoMore', WHERE WHAT IT READS IS OF BULK AT MOST 1048576: true; the input reads as it did. -/
def autoMoreUptoRow : OpenClaim := { program := "ytnjdmbifjbahdaa", sum := "64c584c494e877495fbba6853271a81eeca28d21b653d44a63643e047fe83d65", func := "stanza/stanzalaw04.AutoMore", spec := "autoMore", inPlace := ["internal/bytealg.IndexByteString"], unfollowed := true, recurses := true, plainKeys := false, apart := false, narrowed := true }
def AutoMoreUptoSaid : Prop := autoMoreUptoRow.holds Try.pinned (OpenSpec.upto autoMoreSpec)

end Rows
end Go.Proofs.Ytnjdmbifjbahdaa
