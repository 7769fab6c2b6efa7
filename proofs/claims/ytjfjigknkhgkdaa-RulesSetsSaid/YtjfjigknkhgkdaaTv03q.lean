/- A plan's rules as a text. -/
import Derived.Test.YtjfjigknkhgkdaaTvT03xd
import Derived.Test.YtjfjigknkhgkdaaTvYb
import Derived.Test.YtjfjigknkhgkdaaTvV
namespace Go.Proofs.Ytjfjigknkhgkdaa.T
open Go Go.Tv Go.Proofs
def nmB (n i : Nat) : UInt8 := (65 + i % n).toUInt8
def namesT (n b : Nat) : Nat → List UInt8
  | 0 => []
  | k + 1 => namesT n b k ++ (if b / 2 ^ k % 2 = 1 then [32, nmB n k] else [])
theorem namesT_len (n b k : Nat) : (namesT n b k).length ≤ 2 * k := by
  induction k with
  | zero => exact Nat.le_refl _
  | succ k ih =>
    simp only [namesT, List.length_append]
    split <;> simp only [List.length_cons, List.length_nil] <;> omega
inductive Ex where
  | nm (k : Nat)
  | any
  | set (neg : Bool) (b : Nat)
  | star (a : Ex)
  | plus (a : Ex)
  | opt (a : Ex)
  | alt (a b : Ex)
  | seq (a b : Ex)
def nx (l : List Int) (i : Nat) : Nat × Nat := if l.length ≤ i then (0, i) else ((l.getD i 0).toNat, i + 1)
def Ex.D : Ex → Nat
  | .star a => a.D + 1
  | .plus a => a.D + 1
  | .opt a => a.D + 1
  | .alt a b => max a.D b.D + 1
  | .seq a b => max a.D b.D + 1
  | .set _ _ => 1
  | .any => 1
  | .nm _ => 0
def Sm (l : List Int) : Prop := ∀ x ∈ l, 0 ≤ x ∧ x < 256
end Go.Proofs.Ytjfjigknkhgkdaa.T
