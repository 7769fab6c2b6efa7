/-
  No cell of these rows narrows 'for every input' (looked for: loops, veiled, ifaces, maps, wideKeys, modest, calm, conditions, laid).
  DERIVED. THE GIVEN ROWS OF THIS SEAT. 5 by the template 'for every input the law returns true; each argument reads behind the call as it read before'; 0 by the template 'total and deterministic' (their statements: YtcdmdcfpjeomfaaTotals.lean).
  GIVEN WITH THE SEED: the statements are not yours to turn. If you find one false, say at which input.
  Laid BY PROGRAM, IN A SANDBOX (cutbox-rows.mjs): the forced cells as the released guide's own fill.sh prints them over the translation 641a7b7d52d59aee… (all of the seat's roots in one cut). By AI agents, Wed Nov 11 2026. No macro, syntax, notation, axiom, sorry.
-/
import Derived.Test.YtcdmdcfpjeomfaaChecked
import GoSem.Claim
import GoSem.ClaimJoined
import GoSem.ClaimMapViews
import Derived.JoinedTies
import Derived.KernelRfl
namespace Go.Proofs.Ytcdmdcfpjeomfaa
/- THE CELL 'sum', in the pinned program and in every row, IS THE sha256 OF THE DUMP (.gsa) THAT YtcdmdcfpjeomfaaProg.lean LOADS. Nothing in Lean hashes anything: it is a label: what it is worth is what the hold of that sum in a sandbox is worth. -/
noncomputable def Try.pinned : Pinned := { name := "ytcdmdcfpjeomfaa", sum := "641a7b7d52d59aee0f912b89c0dc6dd16601a6ab9cea53b962f24553b79e1cb9", checked := Try.checked }
namespace Rows
def none {H : Type} : Left H := { results := [], args := [] }

/-- 'stanzalaw07.PatsTexts': WHATEVER THE INPUT: true; the input reads as it did. -/
def patsTextsSpec : ChangeSpec := { name := "patsTexts", fn := fun _ => fun
  | [d] => { results := [.lit (.bool true)], args := [d] }
  | _ => none }
def patsTextsRow : OpenClaim := { program := "ytcdmdcfpjeomfaa", sum := "641a7b7d52d59aee0f912b89c0dc6dd16601a6ab9cea53b962f24553b79e1cb9", func := "stanza/stanzalaw07.PatsTexts", spec := "patsTexts", unfollowed := true, recurses := true, apart := false }
def PatsTextsSaid : Prop := patsTextsRow.holds Try.pinned (OpenSpec.ofChange patsTextsSpec)

/-- ITS FALSE NEIGHBOUR: 'it returns false'. Refute it at one input. -/
def patsTextsWrong : ChangeSpec := { name := "patsTexts", fn := fun _ => fun
  | [d] => { results := [.lit (.bool false)], args := [d] }
  | _ => none }
def PatsTextsWrongFalsely : Prop := patsTextsRow.holds Try.pinned (OpenSpec.ofChange patsTextsWrong)

/-- 'stanzalaw07.PatsWords': WHATEVER THE INPUT: true; the input reads as it did. -/
def patsWordsSpec : ChangeSpec := { name := "patsWords", fn := fun _ => fun
  | [d1, d2] => { results := [.lit (.bool true)], args := [d1, d2] }
  | _ => none }
def patsWordsRow : OpenClaim := { program := "ytcdmdcfpjeomfaa", sum := "641a7b7d52d59aee0f912b89c0dc6dd16601a6ab9cea53b962f24553b79e1cb9", func := "stanza/stanzalaw07.PatsWords", spec := "patsWords", unfollowed := true, recurses := true, apart := false }
def PatsWordsSaid : Prop := patsWordsRow.holds Try.pinned (OpenSpec.ofChange patsWordsSpec)

/-- ITS FALSE NEIGHBOUR: 'it returns false'. Refute it at one input. -/
def patsWordsWrong : ChangeSpec := { name := "patsWords", fn := fun _ => fun
  | [d1, d2] => { results := [.lit (.bool false)], args := [d1, d2] }
  | _ => none }
def PatsWordsWrongFalsely : Prop := patsWordsRow.holds Try.pinned (OpenSpec.ofChange patsWordsWrong)

/-- 'stanzalaw07.PatsBack': WHATEVER THE INPUT: true; the input reads as it did. -/
def patsBackSpec : ChangeSpec := { name := "patsBack", fn := fun _ => fun
  | [d] => { results := [.lit (.bool true)], args := [d] }
  | _ => none }
def patsBackRow : OpenClaim := { program := "ytcdmdcfpjeomfaa", sum := "641a7b7d52d59aee0f912b89c0dc6dd16601a6ab9cea53b962f24553b79e1cb9", func := "stanza/stanzalaw07.PatsBack", spec := "patsBack", unfollowed := true, recurses := true, apart := false }
def PatsBackSaid : Prop := patsBackRow.holds Try.pinned (OpenSpec.ofChange patsBackSpec)

/-- ITS FALSE NEIGHBOUR: 'it returns false'. Refute it at one input. -/
def patsBackWrong : ChangeSpec := { name := "patsBack", fn := fun _ => fun
  | [d] => { results := [.lit (.bool false)], args := [d] }
  | _ => none }
def PatsBackWrongFalsely : Prop := patsBackRow.holds Try.pinned (OpenSpec.ofChange patsBackWrong)

/-- 'stanzalaw07.PatsLimits': WHATEVER THE INPUT: true; the input reads as it did. -/
def patsLimitsSpec : ChangeSpec := { name := "patsLimits", fn := fun _ => fun
  | [d1, d2] => { results := [.lit (.bool true)], args := [d1, d2] }
  | _ => none }
def patsLimitsRow : OpenClaim := { program := "ytcdmdcfpjeomfaa", sum := "641a7b7d52d59aee0f912b89c0dc6dd16601a6ab9cea53b962f24553b79e1cb9", func := "stanza/stanzalaw07.PatsLimits", spec := "patsLimits", unfollowed := true, recurses := true, apart := false }
def PatsLimitsSaid : Prop := patsLimitsRow.holds Try.pinned (OpenSpec.ofChange patsLimitsSpec)

/-- ITS FALSE NEIGHBOUR: 'it returns false'. Refute it at one input. -/
def patsLimitsWrong : ChangeSpec := { name := "patsLimits", fn := fun _ => fun
  | [d1, d2] => { results := [.lit (.bool false)], args := [d1, d2] }
  | _ => none }
def PatsLimitsWrongFalsely : Prop := patsLimitsRow.holds Try.pinned (OpenSpec.ofChange patsLimitsWrong)

/-- 'stanzalaw07.PatsJoins': WHATEVER THE INPUT: true; the input reads as it did. -/
def patsJoinsSpec : ChangeSpec := { name := "patsJoins", fn := fun _ => fun
  | [d1, d2] => { results := [.lit (.bool true)], args := [d1, d2] }
  | _ => none }
def patsJoinsRow : OpenClaim := { program := "ytcdmdcfpjeomfaa", sum := "641a7b7d52d59aee0f912b89c0dc6dd16601a6ab9cea53b962f24553b79e1cb9", func := "stanza/stanzalaw07.PatsJoins", spec := "patsJoins", unfollowed := true, recurses := true, apart := false }
def PatsJoinsSaid : Prop := patsJoinsRow.holds Try.pinned (OpenSpec.ofChange patsJoinsSpec)

/-- ITS FALSE NEIGHBOUR: 'it returns false'. Refute it at one input. -/
def patsJoinsWrong : ChangeSpec := { name := "patsJoins", fn := fun _ => fun
  | [d1, d2] => { results := [.lit (.bool false)], args := [d1, d2] }
  | _ => none }
def PatsJoinsWrongFalsely : Prop := patsJoinsRow.holds Try.pinned (OpenSpec.ofChange patsJoinsWrong)

/- THE SECOND FORM. 'bulk': how many values and letters a reading holds, each counted each time it is reached (what is shared counts as often as it is met; a slice's spare places count too). A statement '..UptoSaid' is the law's where the arguments, and the package variables that the reading takes, are together of bulk at most 1048576: NARROWER than '..Said'. Prove '..Said' where nothing that the law and all that it calls make is longer than what came in: it says more and counts as full. Else prove '..UptoSaid'. A law counts once. -/
mutual
def uptoBulk {H : Type} : DataW H → Nat
  | .lit (.string bytes) => bytes.length + 1
  | .lit _ => 1
  | .nil => 1
  | .ptr d => uptoBulk d + 1
  | .slice elems spare => uptoBulkAll elems + uptoBulkAll spare + 1
  | .agg parts => uptoBulkAll parts + 1
  | .iface _ d => uptoBulk d + 1
  | .map entries => uptoBulkEntries entries + 1
  | .held _ => 1
def uptoBulkAll {H : Type} : List (DataW H) → Nat
  | [] => 0
  | d :: r => uptoBulk d + uptoBulkAll r
def uptoBulkEntries {H : Type} : List (Lit × DataW H) → Nat
  | [] => 0
  | x :: r => uptoBulkEntry x + uptoBulkEntries r
def uptoBulkEntry {H : Type} : Lit × DataW H → Nat
  | (.string bytes, d) => bytes.length + uptoBulk d + 1
  | (_, d) => uptoBulk d + 1
 end
def uptoSmall : (H : Type) → List (DataW H) → Bool := fun _ ds => decide (uptoBulkAll ds ≤ 1048576)
def OpenSpec.upto (s : _root_.Go.ChangeSpec) : _root_.Go.OpenSpec := { _root_.Go.OpenSpec.ofChange s with cond := some uptoSmall }

/-- 'stanzalaw07.PatsTexts', WHERE WHAT IT READS IS OF BULK AT MOST 1048576: true; the input reads as it did. -/
def patsTextsUptoRow : OpenClaim := { program := "ytcdmdcfpjeomfaa", sum := "641a7b7d52d59aee0f912b89c0dc6dd16601a6ab9cea53b962f24553b79e1cb9", func := "stanza/stanzalaw07.PatsTexts", spec := "patsTexts", unfollowed := true, recurses := true, apart := false, narrowed := true }
def PatsTextsUptoSaid : Prop := patsTextsUptoRow.holds Try.pinned (OpenSpec.upto patsTextsSpec)

/-- 'stanzalaw07.PatsWords', WHERE WHAT IT READS IS OF BULK AT MOST 1048576: true; the input reads as it did. -/
def patsWordsUptoRow : OpenClaim := { program := "ytcdmdcfpjeomfaa", sum := "641a7b7d52d59aee0f912b89c0dc6dd16601a6ab9cea53b962f24553b79e1cb9", func := "stanza/stanzalaw07.PatsWords", spec := "patsWords", unfollowed := true, recurses := true, apart := false, narrowed := true }
def PatsWordsUptoSaid : Prop := patsWordsUptoRow.holds Try.pinned (OpenSpec.upto patsWordsSpec)

/-- 'stanzalaw07.PatsBack', WHERE WHAT IT READS IS OF BULK AT MOST 1048576: true; the input reads as it did. -/
def patsBackUptoRow : OpenClaim := { program := "ytcdmdcfpjeomfaa", sum := "641a7b7d52d59aee0f912b89c0dc6dd16601a6ab9cea53b962f24553b79e1cb9", func := "stanza/stanzalaw07.PatsBack", spec := "patsBack", unfollowed := true, recurses := true, apart := false, narrowed := true }
def PatsBackUptoSaid : Prop := patsBackUptoRow.holds Try.pinned (OpenSpec.upto patsBackSpec)

/-- 'stanzalaw07.PatsLimits', WHERE WHAT IT READS IS OF BULK AT MOST 1048576: true; the input reads as it did. -/
def patsLimitsUptoRow : OpenClaim := { program := "ytcdmdcfpjeomfaa", sum := "641a7b7d52d59aee0f912b89c0dc6dd16601a6ab9cea53b962f24553b79e1cb9", func := "stanza/stanzalaw07.PatsLimits", spec := "patsLimits", unfollowed := true, recurses := true, apart := false, narrowed := true }
def PatsLimitsUptoSaid : Prop := patsLimitsUptoRow.holds Try.pinned (OpenSpec.upto patsLimitsSpec)

/-- 'stanzalaw07.PatsJoins', WHERE WHAT IT READS IS OF BULK AT MOST 1048576: true; the input reads as it did. -/
def patsJoinsUptoRow : OpenClaim := { program := "ytcdmdcfpjeomfaa", sum := "641a7b7d52d59aee0f912b89c0dc6dd16601a6ab9cea53b962f24553b79e1cb9", func := "stanza/stanzalaw07.PatsJoins", spec := "patsJoins", unfollowed := true, recurses := true, apart := false, narrowed := true }
def PatsJoinsUptoSaid : Prop := patsJoinsUptoRow.holds Try.pinned (OpenSpec.upto patsJoinsSpec)

end Rows
end Go.Proofs.Ytcdmdcfpjeomfaa
