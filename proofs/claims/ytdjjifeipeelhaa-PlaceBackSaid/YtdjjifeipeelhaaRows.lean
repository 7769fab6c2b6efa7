/-
  No cell of these rows narrows 'for every input' (looked for: loops, veiled, ifaces, maps, wideKeys, modest, calm, conditions, laid).
  DERIVED. THE GIVEN ROWS OF THIS SEAT. 7 by the template 'for every input the law returns true; each argument reads behind the call as it read before'; 0 by the template 'total and deterministic' (their statements: YtdjjifeipeelhaaTotals.lean).
  GIVEN WITH THE SEED: the statements are not yours to turn. If you find one false, say at which input.
  Laid BY PROGRAM, IN A SANDBOX (cutbox-rows.mjs): the forced cells as the released guide's own fill.sh prints them over the translation 9cde9852da5b8bea… (all of the seat's roots in one cut). By AI agents, Wed Nov 11 2026. No macro, syntax, notation, axiom, sorry.
-/
import Derived.Test.YtdjjifeipeelhaaChecked
import GoSem.Claim
import GoSem.ClaimJoined
import GoSem.ClaimMapViews
import Derived.JoinedTies
import Derived.KernelRfl
namespace Go.Proofs.Ytdjjifeipeelhaa
/- THE CELL 'sum', in the pinned program and in every row, IS THE sha256 OF THE DUMP (.gsa) THAT YtdjjifeipeelhaaProg.lean LOADS. Nothing in Lean hashes anything: it is a label: what it is worth is what the hold of that sum in a sandbox is worth. -/
noncomputable def Try.pinned : Pinned := { name := "ytdjjifeipeelhaa", sum := "9cde9852da5b8bea48b46176d8f343fe444a1aeebff24f8437de9ac0c5e82f5d", checked := Try.checked }
namespace Rows
def none {H : Type} : Left H := { results := [], args := [] }

/-- 'stanzalaw17.PlaceNil': WHATEVER THE INPUT: true; the input reads as it did. -/
def placeNilSpec : ChangeSpec := { name := "placeNil", fn := fun _ => fun
  | [d1, d2, d3] => { results := [.lit (.bool true)], args := [d1, d2, d3] }
  | _ => none }
def placeNilRow : OpenClaim := { program := "ytdjjifeipeelhaa", sum := "9cde9852da5b8bea48b46176d8f343fe444a1aeebff24f8437de9ac0c5e82f5d", func := "stanza/stanzalaw17.PlaceNil", spec := "placeNil", unfollowed := true, recurses := true, apart := false }
def PlaceNilSaid : Prop := placeNilRow.holds Try.pinned (OpenSpec.ofChange placeNilSpec)

/-- ITS FALSE NEIGHBOUR: 'it returns false'. Refute it at one input. -/
def placeNilWrong : ChangeSpec := { name := "placeNil", fn := fun _ => fun
  | [d1, d2, d3] => { results := [.lit (.bool false)], args := [d1, d2, d3] }
  | _ => none }
def PlaceNilWrongFalsely : Prop := placeNilRow.holds Try.pinned (OpenSpec.ofChange placeNilWrong)

/-- 'stanzalaw17.PlaceSpots': WHATEVER THE INPUT: true; the input reads as it did. -/
def placeSpotsSpec : ChangeSpec := { name := "placeSpots", fn := fun _ => fun
  | [d1, d2, d3, d4] => { results := [.lit (.bool true)], args := [d1, d2, d3, d4] }
  | _ => none }
def placeSpotsRow : OpenClaim := { program := "ytdjjifeipeelhaa", sum := "9cde9852da5b8bea48b46176d8f343fe444a1aeebff24f8437de9ac0c5e82f5d", func := "stanza/stanzalaw17.PlaceSpots", spec := "placeSpots", inPlace := ["math.Float64bits"], unfollowed := true, recurses := true, apart := false }
def PlaceSpotsSaid : Prop := placeSpotsRow.holds Try.pinned (OpenSpec.ofChange placeSpotsSpec)

/-- ITS FALSE NEIGHBOUR: 'it returns false'. Refute it at one input. -/
def placeSpotsWrong : ChangeSpec := { name := "placeSpots", fn := fun _ => fun
  | [d1, d2, d3, d4] => { results := [.lit (.bool false)], args := [d1, d2, d3, d4] }
  | _ => none }
def PlaceSpotsWrongFalsely : Prop := placeSpotsRow.holds Try.pinned (OpenSpec.ofChange placeSpotsWrong)

/-- 'stanzalaw17.PlaceBytes': WHATEVER THE INPUT: true; the input reads as it did. -/
def placeBytesSpec : ChangeSpec := { name := "placeBytes", fn := fun _ => fun
  | [d1, d2, d3] => { results := [.lit (.bool true)], args := [d1, d2, d3] }
  | _ => none }
def placeBytesRow : OpenClaim := { program := "ytdjjifeipeelhaa", sum := "9cde9852da5b8bea48b46176d8f343fe444a1aeebff24f8437de9ac0c5e82f5d", func := "stanza/stanzalaw17.PlaceBytes", spec := "placeBytes", inPlace := ["math.Float64bits"], unfollowed := true, recurses := true, apart := false }
def PlaceBytesSaid : Prop := placeBytesRow.holds Try.pinned (OpenSpec.ofChange placeBytesSpec)

/-- ITS FALSE NEIGHBOUR: 'it returns false'. Refute it at one input. -/
def placeBytesWrong : ChangeSpec := { name := "placeBytes", fn := fun _ => fun
  | [d1, d2, d3] => { results := [.lit (.bool false)], args := [d1, d2, d3] }
  | _ => none }
def PlaceBytesWrongFalsely : Prop := placeBytesRow.holds Try.pinned (OpenSpec.ofChange placeBytesWrong)

/-- 'stanzalaw17.PlaceRises': WHATEVER THE INPUT: true; the input reads as it did. -/
def placeRisesSpec : ChangeSpec := { name := "placeRises", fn := fun _ => fun
  | [d1, d2] => { results := [.lit (.bool true)], args := [d1, d2] }
  | _ => none }
def placeRisesRow : OpenClaim := { program := "ytdjjifeipeelhaa", sum := "9cde9852da5b8bea48b46176d8f343fe444a1aeebff24f8437de9ac0c5e82f5d", func := "stanza/stanzalaw17.PlaceRises", spec := "placeRises", inPlace := ["math.Float64bits"], unfollowed := true, recurses := true, apart := false }
def PlaceRisesSaid : Prop := placeRisesRow.holds Try.pinned (OpenSpec.ofChange placeRisesSpec)

/-- ITS FALSE NEIGHBOUR: 'it returns false'. Refute it at one input. -/
def placeRisesWrong : ChangeSpec := { name := "placeRises", fn := fun _ => fun
  | [d1, d2] => { results := [.lit (.bool false)], args := [d1, d2] }
  | _ => none }
def PlaceRisesWrongFalsely : Prop := placeRisesRow.holds Try.pinned (OpenSpec.ofChange placeRisesWrong)

/-- 'stanzalaw17.PlaceBack': WHATEVER THE INPUT: true; the input reads as it did. -/
def placeBackSpec : ChangeSpec := { name := "placeBack", fn := fun _ => fun
  | [d1, d2] => { results := [.lit (.bool true)], args := [d1, d2] }
  | _ => none }
def placeBackRow : OpenClaim := { program := "ytdjjifeipeelhaa", sum := "9cde9852da5b8bea48b46176d8f343fe444a1aeebff24f8437de9ac0c5e82f5d", func := "stanza/stanzalaw17.PlaceBack", spec := "placeBack", inPlace := ["math.Float64bits"], unfollowed := true, recurses := true, apart := false }
def PlaceBackSaid : Prop := placeBackRow.holds Try.pinned (OpenSpec.ofChange placeBackSpec)

/-- ITS FALSE NEIGHBOUR: 'it returns false'. Refute it at one input. -/
def placeBackWrong : ChangeSpec := { name := "placeBack", fn := fun _ => fun
  | [d1, d2] => { results := [.lit (.bool false)], args := [d1, d2] }
  | _ => none }
def PlaceBackWrongFalsely : Prop := placeBackRow.holds Try.pinned (OpenSpec.ofChange placeBackWrong)

/-- 'stanzalaw17.PlaceSnaps': WHATEVER THE INPUT: true; the input reads as it did. -/
def placeSnapsSpec : ChangeSpec := { name := "placeSnaps", fn := fun _ => fun
  | [d1, d2, d3] => { results := [.lit (.bool true)], args := [d1, d2, d3] }
  | _ => none }
def placeSnapsRow : OpenClaim := { program := "ytdjjifeipeelhaa", sum := "9cde9852da5b8bea48b46176d8f343fe444a1aeebff24f8437de9ac0c5e82f5d", func := "stanza/stanzalaw17.PlaceSnaps", spec := "placeSnaps", inPlace := ["math.Float64bits"], unfollowed := true, recurses := true, apart := false }
def PlaceSnapsSaid : Prop := placeSnapsRow.holds Try.pinned (OpenSpec.ofChange placeSnapsSpec)

/-- ITS FALSE NEIGHBOUR: 'it returns false'. Refute it at one input. -/
def placeSnapsWrong : ChangeSpec := { name := "placeSnaps", fn := fun _ => fun
  | [d1, d2, d3] => { results := [.lit (.bool false)], args := [d1, d2, d3] }
  | _ => none }
def PlaceSnapsWrongFalsely : Prop := placeSnapsRow.holds Try.pinned (OpenSpec.ofChange placeSnapsWrong)

/-- 'stanzalaw17.PlaceEnds': WHATEVER THE INPUT: true; the input reads as it did. -/
def placeEndsSpec : ChangeSpec := { name := "placeEnds", fn := fun _ => fun
  | [d1, d2] => { results := [.lit (.bool true)], args := [d1, d2] }
  | _ => none }
def placeEndsRow : OpenClaim := { program := "ytdjjifeipeelhaa", sum := "9cde9852da5b8bea48b46176d8f343fe444a1aeebff24f8437de9ac0c5e82f5d", func := "stanza/stanzalaw17.PlaceEnds", spec := "placeEnds", inPlace := ["math.Float64bits"], unfollowed := true, recurses := true, apart := false }
def PlaceEndsSaid : Prop := placeEndsRow.holds Try.pinned (OpenSpec.ofChange placeEndsSpec)

/-- ITS FALSE NEIGHBOUR: 'it returns false'. Refute it at one input. -/
def placeEndsWrong : ChangeSpec := { name := "placeEnds", fn := fun _ => fun
  | [d1, d2] => { results := [.lit (.bool false)], args := [d1, d2] }
  | _ => none }
def PlaceEndsWrongFalsely : Prop := placeEndsRow.holds Try.pinned (OpenSpec.ofChange placeEndsWrong)

/- THE SECOND FORM. 'bulk': how many values and letters a reading holds, each counted each time it is reached (what is shared counts as often as it is met; a slice's spare places count too). A statement '..UptoSaid' is the law's where the arguments, and the package variables that the reading takes, are together of bulk at most 1048576: NARROWER than '..Said'. Prove '..Said' where nothing that the law and all that it calls make is longer than what came in: it says more and counts as full. Else prove '..UptoSaid'. A law counts once. -/
mutual
def uptoBulk {H : Type} : DataW H → Nat
  | .lit (.string bytes) => bytes.length + 1
  | .lit _ => 1
  | .nil => 1
  | .ptr d => uptoBulk d + 1
  | .slice elems spare => uptoBulkAll elems + uptoBulkAll spare + 1
  | .agg parts => uptoBulkAll parts + 1
  | .iface _ d => uptoBulk d + 1
  | .map entries => uptoBulkEntries entries + 1
  | .held _ => 1
def uptoBulkAll {H : Type} : List (DataW H) → Nat
  | [] => 0
  | d :: r => uptoBulk d + uptoBulkAll r
def uptoBulkEntries {H : Type} : List (Lit × DataW H) → Nat
  | [] => 0
  | x :: r => uptoBulkEntry x + uptoBulkEntries r
def uptoBulkEntry {H : Type} : Lit × DataW H → Nat
  | (.string bytes, d) => bytes.length + uptoBulk d + 1
  | (_, d) => uptoBulk d + 1
 end
def uptoSmall : (H : Type) → List (DataW H) → Bool := fun _ ds => decide (uptoBulkAll ds ≤ 1048576)
def OpenSpec.upto (s : _root_.Go.ChangeSpec) : _root_.Go.OpenSpec := { _root_.Go.OpenSpec.ofChange s with cond := some uptoSmall }

/-- 'stanzalaw17.PlaceNil', WHERE WHAT IT READS IS OF BULK AT MOST 1048576: true; the input reads as it did. -/
def placeNilUptoRow : OpenClaim := { program := "ytdjjifeipeelhaa", sum := "9cde9852da5b8bea48b46176d8f343fe444a1aeebff24f8437de9ac0c5e82f5d", func := "stanza/stanzalaw17.PlaceNil", spec := "placeNil", unfollowed := true, recurses := true, apart := false, narrowed := true }
def PlaceNilUptoSaid : Prop := placeNilUptoRow.holds Try.pinned (OpenSpec.upto placeNilSpec)

/-- 'stanzalaw17.PlaceSpots', WHERE WHAT IT READS IS OF BULK AT MOST 1048576: true; the input reads as it did. -/
def placeSpotsUptoRow : OpenClaim := { program := "ytdjjifeipeelhaa", sum := "9cde9852da5b8bea48b46176d8f343fe444a1aeebff24f8437de9ac0c5e82f5d", func := "stanza/stanzalaw17.PlaceSpots", spec := "placeSpots", inPlace := ["math.Float64bits"], unfollowed := true, recurses := true, apart := false, narrowed := true }
def PlaceSpotsUptoSaid : Prop := placeSpotsUptoRow.holds Try.pinned (OpenSpec.upto placeSpotsSpec)

/-- 'stanzalaw17.PlaceBytes', WHERE WHAT IT READS IS OF BULK AT MOST 1048576: true; the input reads as it did. -/
def placeBytesUptoRow : OpenClaim := { program := "ytdjjifeipeelhaa", sum := "9cde9852da5b8bea48b46176d8f343fe444a1aeebff24f8437de9ac0c5e82f5d", func := "stanza/stanzalaw17.PlaceBytes", spec := "placeBytes", inPlace := ["math.Float64bits"], unfollowed := true, recurses := true, apart := false, narrowed := true }
def PlaceBytesUptoSaid : Prop := placeBytesUptoRow.holds Try.pinned (OpenSpec.upto placeBytesSpec)

/-- 'stanzalaw17.PlaceRises', WHERE WHAT IT READS IS OF BULK AT MOST 1048576: true; the input reads as it did. -/
def placeRisesUptoRow : OpenClaim := { program := "ytdjjifeipeelhaa", sum := "9cde9852da5b8bea48b46176d8f343fe444a1aeebff24f8437de9ac0c5e82f5d", func := "stanza/stanzalaw17.PlaceRises", spec := "placeRises", inPlace := ["math.Float64bits"], unfollowed := true, recurses := true, apart := false, narrowed := true }
def PlaceRisesUptoSaid : Prop := placeRisesUptoRow.holds Try.pinned (OpenSpec.upto placeRisesSpec)

/-- 'stanzalaw17.PlaceBack', WHERE WHAT IT READS IS OF BULK AT MOST 1048576: true; the input reads as it did. -/
def placeBackUptoRow : OpenClaim := { program := "ytdjjifeipeelhaa", sum := "9cde9852da5b8bea48b46176d8f343fe444a1aeebff24f8437de9ac0c5e82f5d", func := "stanza/stanzalaw17.PlaceBack", spec := "placeBack", inPlace := ["math.Float64bits"], unfollowed := true, recurses := true, apart := false, narrowed := true }
def PlaceBackUptoSaid : Prop := placeBackUptoRow.holds Try.pinned (OpenSpec.upto placeBackSpec)

/-- 'stanzalaw17.PlaceSnaps', WHERE WHAT IT READS IS OF BULK AT MOST 1048576: true; the input reads as it did. -/
def placeSnapsUptoRow : OpenClaim := { program := "ytdjjifeipeelhaa", sum := "9cde9852da5b8bea48b46176d8f343fe444a1aeebff24f8437de9ac0c5e82f5d", func := "stanza/stanzalaw17.PlaceSnaps", spec := "placeSnaps", inPlace := ["math.Float64bits"], unfollowed := true, recurses := true, apart := false, narrowed := true }
def PlaceSnapsUptoSaid : Prop := placeSnapsUptoRow.holds Try.pinned (OpenSpec.upto placeSnapsSpec)

/-- 'stanzalaw17.PlaceEnds', WHERE WHAT IT READS IS OF BULK AT MOST 1048576: true; the input reads as it did. -/
def placeEndsUptoRow : OpenClaim := { program := "ytdjjifeipeelhaa", sum := "9cde9852da5b8bea48b46176d8f343fe444a1aeebff24f8437de9ac0c5e82f5d", func := "stanza/stanzalaw17.PlaceEnds", spec := "placeEnds", inPlace := ["math.Float64bits"], unfollowed := true, recurses := true, apart := false, narrowed := true }
def PlaceEndsUptoSaid : Prop := placeEndsUptoRow.holds Try.pinned (OpenSpec.upto placeEndsSpec)

end Rows
end Go.Proofs.Ytdjjifeipeelhaa
