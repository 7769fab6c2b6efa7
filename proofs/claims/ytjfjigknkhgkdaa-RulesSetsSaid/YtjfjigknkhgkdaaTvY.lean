/- Loops in plain laws. -/
import Derived.Test.YtjfjigknkhgkdaaTvR
namespace Go.Tv
open Go
section
variable {S T S' T' : Type}
theorem iter_count {body : S → Option (S ⊕ T)} (st : Nat → S) (n : Nat) {r : T} (h : ∀ k, k < n → body (st k) = some (.inl (st (k + 1)))) (he : body (st n) = some (.inr r)) : iter body (st 0) = some r := by
  have key : ∀ m k, k + m = n → iter body (st k) = some r := fun m => by
    induction m with
    | zero =>
      intro k hk
      obtain rfl : k = n := by omega
      rw [iter_eq, he]
    | succ m ih =>
      intro k hk
      rw [iter_eq, h k (by omega)]
      exact ih (k + 1) (by omega)
  exact key n 0 (by omega)
end
theorem wrap_i64 {x : Int} (h1 : -9223372036854775808 ≤ x) (h2 : x ≤ 9223372036854775807) : IntKind.i64.wrap x = x := by
  simp only [IntKind.wrap, IntKind.min, IntKind.max]
  first | omega | (simp [IntKind.bits, IntKind.signed]; omega)
end Go.Tv
