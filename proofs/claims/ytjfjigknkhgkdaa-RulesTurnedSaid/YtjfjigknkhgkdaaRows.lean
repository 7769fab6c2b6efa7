/-
  No cell of these rows narrows 'for every input' (looked for: loops, veiled, ifaces, maps, wideKeys, modest, calm, conditions, laid).
  DERIVED. THE GIVEN ROWS OF THIS SEAT. 7 by the template 'for every input the law returns true; each argument reads behind the call as it read before'; 0 by the template 'total and deterministic' (their statements: YtjfjigknkhgkdaaTotals.lean).
  GIVEN WITH THE SEED: the statements are not yours to turn. If you find one false, say at which input.
  Laid BY PROGRAM, IN A SANDBOX (cutbox-rows.mjs): the forced cells as the released guide's own fill.sh prints them over the translation 9686e5d99b625806… (all of the seat's roots in one cut). By AI agents, Wed Nov 11 2026. No macro, syntax, notation, axiom, sorry.
-/
import Derived.Test.YtjfjigknkhgkdaaChecked
import GoSem.Claim
import GoSem.ClaimJoined
import GoSem.ClaimMapViews
import Derived.JoinedTies
import Derived.KernelRfl
namespace Go.Proofs.Ytjfjigknkhgkdaa
/- THE CELL 'sum', in the pinned program and in every row, IS THE sha256 OF THE DUMP (.gsa) THAT YtjfjigknkhgkdaaProg.lean LOADS. Nothing in Lean hashes anything: it is a label: what it is worth is what the hold of that sum in a sandbox is worth. -/
noncomputable def Try.pinned : Pinned := { name := "ytjfjigknkhgkdaa", sum := "9686e5d99b6258061c9ed0e8d8e447cfd625e6289f150d423566d3eefbe01916", checked := Try.checked }
namespace Rows
def none {H : Type} : Left H := { results := [], args := [] }

/-- 'stanzalaw03.RulesTexts': WHATEVER THE INPUT: true; the input reads as it did. -/
def rulesTextsSpec : ChangeSpec := { name := "rulesTexts", fn := fun _ => fun
  | [d] => { results := [.lit (.bool true)], args := [d] }
  | _ => none }
def rulesTextsRow : OpenClaim := { program := "ytjfjigknkhgkdaa", sum := "9686e5d99b6258061c9ed0e8d8e447cfd625e6289f150d423566d3eefbe01916", func := "stanza/stanzalaw03.RulesTexts", spec := "rulesTexts", inPlace := ["internal/bytealg.IndexByteString"], unfollowed := true, recurses := true, apart := false }
def RulesTextsSaid : Prop := rulesTextsRow.holds Try.pinned (OpenSpec.ofChange rulesTextsSpec)

/-- ITS FALSE NEIGHBOUR: 'it returns false'. Refute it at one input. -/
def rulesTextsWrong : ChangeSpec := { name := "rulesTexts", fn := fun _ => fun
  | [d] => { results := [.lit (.bool false)], args := [d] }
  | _ => none }
def RulesTextsWrongFalsely : Prop := rulesTextsRow.holds Try.pinned (OpenSpec.ofChange rulesTextsWrong)

/-- 'stanzalaw03.RulesTurned': WHATEVER THE INPUT: true; the input reads as it did. -/
def rulesTurnedSpec : ChangeSpec := { name := "rulesTurned", fn := fun _ => fun
  | [d1, d2, d3] => { results := [.lit (.bool true)], args := [d1, d2, d3] }
  | _ => none }
def rulesTurnedRow : OpenClaim := { program := "ytjfjigknkhgkdaa", sum := "9686e5d99b6258061c9ed0e8d8e447cfd625e6289f150d423566d3eefbe01916", func := "stanza/stanzalaw03.RulesTurned", spec := "rulesTurned", inPlace := ["internal/bytealg.IndexByteString"], unfollowed := true, recurses := true, apart := false }
def RulesTurnedSaid : Prop := rulesTurnedRow.holds Try.pinned (OpenSpec.ofChange rulesTurnedSpec)

/-- ITS FALSE NEIGHBOUR: 'it returns false'. Refute it at one input. -/
def rulesTurnedWrong : ChangeSpec := { name := "rulesTurned", fn := fun _ => fun
  | [d1, d2, d3] => { results := [.lit (.bool false)], args := [d1, d2, d3] }
  | _ => none }
def RulesTurnedWrongFalsely : Prop := rulesTurnedRow.holds Try.pinned (OpenSpec.ofChange rulesTurnedWrong)

/-- 'stanzalaw03.RulesCuts': WHATEVER THE INPUT: true; the input reads as it did. -/
def rulesCutsSpec : ChangeSpec := { name := "rulesCuts", fn := fun _ => fun
  | [d1, d2] => { results := [.lit (.bool true)], args := [d1, d2] }
  | _ => none }
def rulesCutsRow : OpenClaim := { program := "ytjfjigknkhgkdaa", sum := "9686e5d99b6258061c9ed0e8d8e447cfd625e6289f150d423566d3eefbe01916", func := "stanza/stanzalaw03.RulesCuts", spec := "rulesCuts", inPlace := ["internal/bytealg.IndexByteString"], unfollowed := true, recurses := true, apart := false }
def RulesCutsSaid : Prop := rulesCutsRow.holds Try.pinned (OpenSpec.ofChange rulesCutsSpec)

/-- ITS FALSE NEIGHBOUR: 'it returns false'. Refute it at one input. -/
def rulesCutsWrong : ChangeSpec := { name := "rulesCuts", fn := fun _ => fun
  | [d1, d2] => { results := [.lit (.bool false)], args := [d1, d2] }
  | _ => none }
def RulesCutsWrongFalsely : Prop := rulesCutsRow.holds Try.pinned (OpenSpec.ofChange rulesCutsWrong)

/-- 'stanzalaw03.RulesSpaced': WHATEVER THE INPUT: true; the input reads as it did. -/
def rulesSpacedSpec : ChangeSpec := { name := "rulesSpaced", fn := fun _ => fun
  | [d1, d2] => { results := [.lit (.bool true)], args := [d1, d2] }
  | _ => none }
def rulesSpacedRow : OpenClaim := { program := "ytjfjigknkhgkdaa", sum := "9686e5d99b6258061c9ed0e8d8e447cfd625e6289f150d423566d3eefbe01916", func := "stanza/stanzalaw03.RulesSpaced", spec := "rulesSpaced", inPlace := ["internal/bytealg.IndexByteString"], unfollowed := true, recurses := true, apart := false }
def RulesSpacedSaid : Prop := rulesSpacedRow.holds Try.pinned (OpenSpec.ofChange rulesSpacedSpec)

/-- ITS FALSE NEIGHBOUR: 'it returns false'. Refute it at one input. -/
def rulesSpacedWrong : ChangeSpec := { name := "rulesSpaced", fn := fun _ => fun
  | [d1, d2] => { results := [.lit (.bool false)], args := [d1, d2] }
  | _ => none }
def RulesSpacedWrongFalsely : Prop := rulesSpacedRow.holds Try.pinned (OpenSpec.ofChange rulesSpacedWrong)

/-- 'stanzalaw03.RulesMade': WHATEVER THE INPUT: true; the input reads as it did. -/
def rulesMadeSpec : ChangeSpec := { name := "rulesMade", fn := fun _ => fun
  | [d] => { results := [.lit (.bool true)], args := [d] }
  | _ => none }
def rulesMadeRow : OpenClaim := { program := "ytjfjigknkhgkdaa", sum := "9686e5d99b6258061c9ed0e8d8e447cfd625e6289f150d423566d3eefbe01916", func := "stanza/stanzalaw03.RulesMade", spec := "rulesMade", inPlace := ["internal/bytealg.IndexByteString"], unfollowed := true, recurses := true, apart := false }
def RulesMadeSaid : Prop := rulesMadeRow.holds Try.pinned (OpenSpec.ofChange rulesMadeSpec)

/-- ITS FALSE NEIGHBOUR: 'it returns false'. Refute it at one input. -/
def rulesMadeWrong : ChangeSpec := { name := "rulesMade", fn := fun _ => fun
  | [d] => { results := [.lit (.bool false)], args := [d] }
  | _ => none }
def RulesMadeWrongFalsely : Prop := rulesMadeRow.holds Try.pinned (OpenSpec.ofChange rulesMadeWrong)

/-- 'stanzalaw03.RulesLimits': WHATEVER THE INPUT: true; the input reads as it did. -/
def rulesLimitsSpec : ChangeSpec := { name := "rulesLimits", fn := fun _ => fun
  | [d1, d2] => { results := [.lit (.bool true)], args := [d1, d2] }
  | _ => none }
def rulesLimitsRow : OpenClaim := { program := "ytjfjigknkhgkdaa", sum := "9686e5d99b6258061c9ed0e8d8e447cfd625e6289f150d423566d3eefbe01916", func := "stanza/stanzalaw03.RulesLimits", spec := "rulesLimits", inPlace := ["internal/bytealg.IndexByteString"], unfollowed := true, recurses := true, apart := false }
def RulesLimitsSaid : Prop := rulesLimitsRow.holds Try.pinned (OpenSpec.ofChange rulesLimitsSpec)

/-- ITS FALSE NEIGHBOUR: 'it returns false'. Refute it at one input. -/
def rulesLimitsWrong : ChangeSpec := { name := "rulesLimits", fn := fun _ => fun
  | [d1, d2] => { results := [.lit (.bool false)], args := [d1, d2] }
  | _ => none }
def RulesLimitsWrongFalsely : Prop := rulesLimitsRow.holds Try.pinned (OpenSpec.ofChange rulesLimitsWrong)

/-- 'stanzalaw03.RulesSets': WHATEVER THE INPUT: true; the input reads as it did. -/
def rulesSetsSpec : ChangeSpec := { name := "rulesSets", fn := fun _ => fun
  | [d1, d2, d3] => { results := [.lit (.bool true)], args := [d1, d2, d3] }
  | _ => none }
def rulesSetsRow : OpenClaim := { program := "ytjfjigknkhgkdaa", sum := "9686e5d99b6258061c9ed0e8d8e447cfd625e6289f150d423566d3eefbe01916", func := "stanza/stanzalaw03.RulesSets", spec := "rulesSets", inPlace := ["internal/bytealg.IndexByteString"], unfollowed := true, recurses := true, apart := false }
def RulesSetsSaid : Prop := rulesSetsRow.holds Try.pinned (OpenSpec.ofChange rulesSetsSpec)

/-- ITS FALSE NEIGHBOUR: 'it returns false'. Refute it at one input. -/
def rulesSetsWrong : ChangeSpec := { name := "rulesSets", fn := fun _ => fun
  | [d1, d2, d3] => { results := [.lit (.bool false)], args := [d1, d2, d3] }
  | _ => none }
def RulesSetsWrongFalsely : Prop := rulesSetsRow.holds Try.pinned (OpenSpec.ofChange rulesSetsWrong)

/- THE SECOND FORM. 'bulk': how many values and letters a reading holds, each counted each time it is reached (what is shared counts as often as it is met; a slice's spare places count too). A statement '..UptoSaid' is the law's where the arguments, and the package variables that the reading takes, are together of bulk at most 1048576: NARROWER than '..Said'. Prove '..Said' where nothing that the law and all that it calls make is longer than what came in: it says more and counts as full. Else prove '..UptoSaid'. A law counts once. -/
mutual
def uptoBulk {H : Type} : DataW H → Nat
  | .lit (.string bytes) => bytes.length + 1
  | .lit _ => 1
  | .nil => 1
  | .ptr d => uptoBulk d + 1
  | .slice elems spare => uptoBulkAll elems + uptoBulkAll spare + 1
  | .agg parts => uptoBulkAll parts + 1
  | .iface _ d => uptoBulk d + 1
  | .map entries => uptoBulkEntries entries + 1
  | .held _ => 1
def uptoBulkAll {H : Type} : List (DataW H) → Nat
  | [] => 0
  | d :: r => uptoBulk d + uptoBulkAll r
def uptoBulkEntries {H : Type} : List (Lit × DataW H) → Nat
  | [] => 0
  | x :: r => uptoBulkEntry x + uptoBulkEntries r
def uptoBulkEntry {H : Type} : Lit × DataW H → Nat
  | (.string bytes, d) => bytes.length + uptoBulk d + 1
  | (_, d) => uptoBulk d + 1
 end
def uptoSmall : (H : Type) → List (DataW H) → Bool := fun _ ds => decide (uptoBulkAll ds ≤ 1048576)
def OpenSpec.upto (s : _root_.Go.ChangeSpec) : _root_.Go.OpenSpec := { _root_.Go.OpenSpec.ofChange s with cond := some uptoSmall }

/-- 'stanzalaw03.RulesTexts', WHERE WHAT IT READS IS OF BULK AT MOST 1048576: true; the input reads as it did. -/
def rulesTextsUptoRow : OpenClaim := { program := "ytjfjigknkhgkdaa", sum := "9686e5d99b6258061c9ed0e8d8e447cfd625e6289f150d423566d3eefbe01916", func := "stanza/stanzalaw03.RulesTexts", spec := "rulesTexts", inPlace := ["internal/bytealg.IndexByteString"], unfollowed := true, recurses := true, apart := false, narrowed := true }
def RulesTextsUptoSaid : Prop := rulesTextsUptoRow.holds Try.pinned (OpenSpec.upto rulesTextsSpec)

/-- 'stanzalaw03.RulesTurned', WHERE WHAT IT READS IS OF BULK AT MOST 1048576: true; the input reads as it did. -/
def rulesTurnedUptoRow : OpenClaim := { program := "ytjfjigknkhgkdaa", sum := "9686e5d99b6258061c9ed0e8d8e447cfd625e6289f150d423566d3eefbe01916", func := "stanza/stanzalaw03.RulesTurned", spec := "rulesTurned", inPlace := ["internal/bytealg.IndexByteString"], unfollowed := true, recurses := true, apart := false, narrowed := true }
def RulesTurnedUptoSaid : Prop := rulesTurnedUptoRow.holds Try.pinned (OpenSpec.upto rulesTurnedSpec)

/-- 'stanzalaw03.RulesCuts', WHERE WHAT IT READS IS OF BULK AT MOST 1048576: true; the input reads as it did. -/
def rulesCutsUptoRow : OpenClaim := { program := "ytjfjigknkhgkdaa", sum := "9686e5d99b6258061c9ed0e8d8e447cfd625e6289f150d423566d3eefbe01916", func := "stanza/stanzalaw03.RulesCuts", spec := "rulesCuts", inPlace := ["internal/bytealg.IndexByteString"], unfollowed := true, recurses := true, apart := false, narrowed := true }
def RulesCutsUptoSaid : Prop := rulesCutsUptoRow.holds Try.pinned (OpenSpec.upto rulesCutsSpec)

/-- 'stanzalaw03.RulesSpaced', WHERE WHAT IT READS IS OF BULK AT MOST 1048576: true; the input reads as it did. -/
def rulesSpacedUptoRow : OpenClaim := { program := "ytjfjigknkhgkdaa", sum := "9686e5d99b6258061c9ed0e8d8e447cfd625e6289f150d423566d3eefbe01916", func := "stanza/stanzalaw03.RulesSpaced", spec := "rulesSpaced", inPlace := ["internal/bytealg.IndexByteString"], unfollowed := true, recurses := true, apart := false, narrowed := true }
def RulesSpacedUptoSaid : Prop := rulesSpacedUptoRow.holds Try.pinned (OpenSpec.upto rulesSpacedSpec)

/-- 'stanzalaw03.RulesMade', WHERE WHAT IT READS IS OF BULK AT MOST 1048576: true; the input reads as it did. -/
def rulesMadeUptoRow : OpenClaim := { program := "ytjfjigknkhgkdaa", sum := "9686e5d99b6258061c9ed0e8d8e447cfd625e6289f150d423566d3eefbe01916", func := "stanza/stanzalaw03.RulesMade", spec := "rulesMade", inPlace := ["internal/bytealg.IndexByteString"], unfollowed := true, recurses := true, apart := false, narrowed := true }
def RulesMadeUptoSaid : Prop := rulesMadeUptoRow.holds Try.pinned (OpenSpec.upto rulesMadeSpec)

/-- 'stanzalaw03.RulesLimits', WHERE WHAT IT READS IS OF BULK AT MOST 1048576: true; the input reads as it did. -/
def rulesLimitsUptoRow : OpenClaim := { program := "ytjfjigknkhgkdaa", sum := "9686e5d99b6258061c9ed0e8d8e447cfd625e6289f150d423566d3eefbe01916", func := "stanza/stanzalaw03.RulesLimits", spec := "rulesLimits", inPlace := ["internal/bytealg.IndexByteString"], unfollowed := true, recurses := true, apart := false, narrowed := true }
def RulesLimitsUptoSaid : Prop := rulesLimitsUptoRow.holds Try.pinned (OpenSpec.upto rulesLimitsSpec)

/-- 'stanzalaw03.RulesSets', WHERE WHAT IT READS IS OF BULK AT MOST 1048576: true; the input reads as it did. -/
def rulesSetsUptoRow : OpenClaim := { program := "ytjfjigknkhgkdaa", sum := "9686e5d99b6258061c9ed0e8d8e447cfd625e6289f150d423566d3eefbe01916", func := "stanza/stanzalaw03.RulesSets", spec := "rulesSets", inPlace := ["internal/bytealg.IndexByteString"], unfollowed := true, recurses := true, apart := false, narrowed := true }
def RulesSetsUptoSaid : Prop := rulesSetsUptoRow.holds Try.pinned (OpenSpec.upto rulesSetsSpec)

end Rows
end Go.Proofs.Ytjfjigknkhgkdaa
