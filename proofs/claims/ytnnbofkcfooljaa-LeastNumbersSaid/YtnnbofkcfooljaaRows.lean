/-
  No cell of these rows narrows 'for every input' (looked for: loops, veiled, ifaces, maps, wideKeys, modest, calm, conditions, laid).
  DERIVED. THE GIVEN ROWS OF THIS SEAT. 5 by the template 'for every input the law returns true; each argument reads behind the call as it read before'; 0 by the template 'total and deterministic' (their statements: YtnnbofkcfooljaaTotals.lean).
  GIVEN WITH THE SEED: the statements are not yours to turn. If you find one false, say at which input.
  Laid BY PROGRAM, IN A SANDBOX (cutbox-rows.mjs): the forced cells as the released guide's own fill.sh prints them over the translation c131f58047783cff… (all of the seat's roots in one cut). By AI agents, Wed Nov 11 2026. No macro, syntax, notation, axiom, sorry.
-/
import Derived.Test.YtnnbofkcfooljaaChecked
import GoSem.Claim
import GoSem.ClaimJoined
import GoSem.ClaimMapViews
import Derived.JoinedTies
import Derived.KernelRfl
namespace Go.Proofs.Ytnnbofkcfooljaa
/- THE CELL 'sum', in the pinned program and in every row, IS THE sha256 OF THE DUMP (.gsa) THAT YtnnbofkcfooljaaProg.lean LOADS. Nothing in Lean hashes anything: it is a label: what it is worth is what the hold of that sum in a sandbox is worth. -/
noncomputable def Try.pinned : Pinned := { name := "ytnnbofkcfooljaa", sum := "c131f58047783cff1740e527d9049cbf518668843cb9974140f6724869894d17", checked := Try.checked }
namespace Rows
def none {H : Type} : Left H := { results := [], args := [] }

/-- 'stanzalaw05.LeastMakes': WHATEVER THE INPUT: true; the input reads as it did. -/
def leastMakesSpec : ChangeSpec := { name := "leastMakes", fn := fun _ => fun
  | [d1, d2, d3] => { results := [.lit (.bool true)], args := [d1, d2, d3] }
  | _ => none }
def leastMakesRow : OpenClaim := { program := "ytnnbofkcfooljaa", sum := "c131f58047783cff1740e527d9049cbf518668843cb9974140f6724869894d17", func := "stanza/stanzalaw05.LeastMakes", spec := "leastMakes", unfollowed := true, recurses := true, apart := false }
def LeastMakesSaid : Prop := leastMakesRow.holds Try.pinned (OpenSpec.ofChange leastMakesSpec)

/-- ITS FALSE NEIGHBOUR: 'it returns false'. Refute it at one input. -/
def leastMakesWrong : ChangeSpec := { name := "leastMakes", fn := fun _ => fun
  | [d1, d2, d3] => { results := [.lit (.bool false)], args := [d1, d2, d3] }
  | _ => none }
def LeastMakesWrongFalsely : Prop := leastMakesRow.holds Try.pinned (OpenSpec.ofChange leastMakesWrong)

/-- 'stanzalaw05.LeastChecks': WHATEVER THE INPUT: true; the input reads as it did. -/
def leastChecksSpec : ChangeSpec := { name := "leastChecks", fn := fun _ => fun
  | [d] => { results := [.lit (.bool true)], args := [d] }
  | _ => none }
def leastChecksRow : OpenClaim := { program := "ytnnbofkcfooljaa", sum := "c131f58047783cff1740e527d9049cbf518668843cb9974140f6724869894d17", func := "stanza/stanzalaw05.LeastChecks", spec := "leastChecks", unfollowed := true, recurses := true, apart := false }
def LeastChecksSaid : Prop := leastChecksRow.holds Try.pinned (OpenSpec.ofChange leastChecksSpec)

/-- ITS FALSE NEIGHBOUR: 'it returns false'. Refute it at one input. -/
def leastChecksWrong : ChangeSpec := { name := "leastChecks", fn := fun _ => fun
  | [d] => { results := [.lit (.bool false)], args := [d] }
  | _ => none }
def LeastChecksWrongFalsely : Prop := leastChecksRow.holds Try.pinned (OpenSpec.ofChange leastChecksWrong)

/-- 'stanzalaw05.LeastNumbers': WHATEVER THE INPUT: true; the input reads as it did. -/
def leastNumbersSpec : ChangeSpec := { name := "leastNumbers", fn := fun _ => fun
  | [d1, d2, d3, d4] => { results := [.lit (.bool true)], args := [d1, d2, d3, d4] }
  | _ => none }
def leastNumbersRow : OpenClaim := { program := "ytnnbofkcfooljaa", sum := "c131f58047783cff1740e527d9049cbf518668843cb9974140f6724869894d17", func := "stanza/stanzalaw05.LeastNumbers", spec := "leastNumbers", unfollowed := true, recurses := true, apart := false }
def LeastNumbersSaid : Prop := leastNumbersRow.holds Try.pinned (OpenSpec.ofChange leastNumbersSpec)

/-- ITS FALSE NEIGHBOUR: 'it returns false'. Refute it at one input. -/
def leastNumbersWrong : ChangeSpec := { name := "leastNumbers", fn := fun _ => fun
  | [d1, d2, d3, d4] => { results := [.lit (.bool false)], args := [d1, d2, d3, d4] }
  | _ => none }
def LeastNumbersWrongFalsely : Prop := leastNumbersRow.holds Try.pinned (OpenSpec.ofChange leastNumbersWrong)

/-- 'stanzalaw05.LeastCopies': WHATEVER THE INPUT: true; the input reads as it did. -/
def leastCopiesSpec : ChangeSpec := { name := "leastCopies", fn := fun _ => fun
  | [d1, d2, d3, d4] => { results := [.lit (.bool true)], args := [d1, d2, d3, d4] }
  | _ => none }
def leastCopiesRow : OpenClaim := { program := "ytnnbofkcfooljaa", sum := "c131f58047783cff1740e527d9049cbf518668843cb9974140f6724869894d17", func := "stanza/stanzalaw05.LeastCopies", spec := "leastCopies", unfollowed := true, recurses := true, apart := false }
def LeastCopiesSaid : Prop := leastCopiesRow.holds Try.pinned (OpenSpec.ofChange leastCopiesSpec)

/-- ITS FALSE NEIGHBOUR: 'it returns false'. Refute it at one input. -/
def leastCopiesWrong : ChangeSpec := { name := "leastCopies", fn := fun _ => fun
  | [d1, d2, d3, d4] => { results := [.lit (.bool false)], args := [d1, d2, d3, d4] }
  | _ => none }
def LeastCopiesWrongFalsely : Prop := leastCopiesRow.holds Try.pinned (OpenSpec.ofChange leastCopiesWrong)

/-- 'stanzalaw05.LeastAlike': WHATEVER THE INPUT: true; the input reads as it did. -/
def leastAlikeSpec : ChangeSpec := { name := "leastAlike", fn := fun _ => fun
  | [d1, d2, d3, d4] => { results := [.lit (.bool true)], args := [d1, d2, d3, d4] }
  | _ => none }
def leastAlikeRow : OpenClaim := { program := "ytnnbofkcfooljaa", sum := "c131f58047783cff1740e527d9049cbf518668843cb9974140f6724869894d17", func := "stanza/stanzalaw05.LeastAlike", spec := "leastAlike", unfollowed := true, recurses := true, apart := false }
def LeastAlikeSaid : Prop := leastAlikeRow.holds Try.pinned (OpenSpec.ofChange leastAlikeSpec)

/-- ITS FALSE NEIGHBOUR: 'it returns false'. Refute it at one input. -/
def leastAlikeWrong : ChangeSpec := { name := "leastAlike", fn := fun _ => fun
  | [d1, d2, d3, d4] => { results := [.lit (.bool false)], args := [d1, d2, d3, d4] }
  | _ => none }
def LeastAlikeWrongFalsely : Prop := leastAlikeRow.holds Try.pinned (OpenSpec.ofChange leastAlikeWrong)

/- THE SECOND FORM. 'bulk': how many values and letters a reading holds, each counted each time it is reached (what is shared counts as often as it is met; a slice's spare places count too). A statement '..UptoSaid' is the law's where the arguments, and the package variables that the reading takes, are together of bulk at most 1048576: NARROWER than '..Said'. Prove '..Said' where nothing that the law and all that it calls make is longer than what came in: it says more and counts as full. Else prove '..UptoSaid'. A law counts once. -/
mutual
def uptoBulk {H : Type} : DataW H → Nat
  | .lit (.string bytes) => bytes.length + 1
  | .lit _ => 1
  | .nil => 1
  | .ptr d => uptoBulk d + 1
  | .slice elems spare => uptoBulkAll elems + uptoBulkAll spare + 1
  | .agg parts => uptoBulkAll parts + 1
  | .iface _ d => uptoBulk d + 1
  | .map entries => uptoBulkEntries entries + 1
  | .held _ => 1
def uptoBulkAll {H : Type} : List (DataW H) → Nat
  | [] => 0
  | d :: r => uptoBulk d + uptoBulkAll r
def uptoBulkEntries {H : Type} : List (Lit × DataW H) → Nat
  | [] => 0
  | x :: r => uptoBulkEntry x + uptoBulkEntries r
def uptoBulkEntry {H : Type} : Lit × DataW H → Nat
  | (.string bytes, d) => bytes.length + uptoBulk d + 1
  | (_, d) => uptoBulk d + 1
 end
def uptoSmall : (H : Type) → List (DataW H) → Bool := fun _ ds => decide (uptoBulkAll ds ≤ 1048576)
def OpenSpec.upto (s : _root_.Go.ChangeSpec) : _root_.Go.OpenSpec := { _root_.Go.OpenSpec.ofChange s with cond := some uptoSmall }

/-- 'stanzalaw05.LeastMakes', WHERE WHAT IT READS IS OF BULK AT MOST 1048576: true; the input reads as it did. -/
def leastMakesUptoRow : OpenClaim := { program := "ytnnbofkcfooljaa", sum := "c131f58047783cff1740e527d9049cbf518668843cb9974140f6724869894d17", func := "stanza/stanzalaw05.LeastMakes", spec := "leastMakes", unfollowed := true, recurses := true, apart := false, narrowed := true }
def LeastMakesUptoSaid : Prop := leastMakesUptoRow.holds Try.pinned (OpenSpec.upto leastMakesSpec)

/-- 'stanzalaw05.LeastChecks', WHERE WHAT IT READS IS OF BULK AT MOST 1048576: true; the input reads as it did. -/
def leastChecksUptoRow : OpenClaim := { program := "ytnnbofkcfooljaa", sum := "c131f58047783cff1740e527d9049cbf518668843cb9974140f6724869894d17", func := "stanza/stanzalaw05.LeastChecks", spec := "leastChecks", unfollowed := true, recurses := true, apart := false, narrowed := true }
def LeastChecksUptoSaid : Prop := leastChecksUptoRow.holds Try.pinned (OpenSpec.upto leastChecksSpec)

/-- 'stanzalaw05.LeastNumbers', WHERE WHAT IT READS IS OF BULK AT MOST 1048576: true; the input reads as it did. -/
def leastNumbersUptoRow : OpenClaim := { program := "ytnnbofkcfooljaa", sum := "c131f58047783cff1740e527d9049cbf518668843cb9974140f6724869894d17", func := "stanza/stanzalaw05.LeastNumbers", spec := "leastNumbers", unfollowed := true, recurses := true, apart := false, narrowed := true }
def LeastNumbersUptoSaid : Prop := leastNumbersUptoRow.holds Try.pinned (OpenSpec.upto leastNumbersSpec)

/-- 'stanzalaw05.LeastCopies', WHERE WHAT IT READS IS OF BULK AT MOST 1048576: true; the input reads as it did. -/
def leastCopiesUptoRow : OpenClaim := { program := "ytnnbofkcfooljaa", sum := "c131f58047783cff1740e527d9049cbf518668843cb9974140f6724869894d17", func := "stanza/stanzalaw05.LeastCopies", spec := "leastCopies", unfollowed := true, recurses := true, apart := false, narrowed := true }
def LeastCopiesUptoSaid : Prop := leastCopiesUptoRow.holds Try.pinned (OpenSpec.upto leastCopiesSpec)

/-- 'stanzalaw05.LeastAlike', WHERE WHAT IT READS IS OF BULK AT MOST 1048576: true; the input reads as it did. -/
def leastAlikeUptoRow : OpenClaim := { program := "ytnnbofkcfooljaa", sum := "c131f58047783cff1740e527d9049cbf518668843cb9974140f6724869894d17", func := "stanza/stanzalaw05.LeastAlike", spec := "leastAlike", unfollowed := true, recurses := true, apart := false, narrowed := true }
def LeastAlikeUptoSaid : Prop := leastAlikeUptoRow.holds Try.pinned (OpenSpec.upto leastAlikeSpec)

end Rows
end Go.Proofs.Ytnnbofkcfooljaa
