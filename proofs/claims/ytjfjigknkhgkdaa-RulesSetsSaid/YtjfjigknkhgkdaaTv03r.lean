/- A plan's rules as a text: all of it. -/
import Derived.Test.YtjfjigknkhgkdaaTv03q
namespace Go.Proofs.Ytjfjigknkhgkdaa.T
open Go Go.Tv Go.Proofs
abbrev PR := Int × List Int × List Int
structure Pl (c j a : Int) (tr : List Int) (l : List PR) : Prop where
  hc : 0 ≤ c ∧ c < 256
  hj : 0 ≤ j ∧ j < 256
  ha : 0 ≤ a ∧ a < 256
  ht : Sm tr
  hl : ∀ x ∈ l, (0 ≤ x.1 ∧ x.1 < 256) ∧ Sm x.2.1 ∧ Sm x.2.2
end Go.Proofs.Ytjfjigknkhgkdaa.T
