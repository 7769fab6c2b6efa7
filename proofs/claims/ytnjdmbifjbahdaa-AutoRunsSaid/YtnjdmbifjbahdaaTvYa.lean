/- Loops in plain laws: what holds in each round. -/
import Derived.Test.YtnjdmbifjbahdaaTvY
namespace Go.Tv
open Go
/-- A loop that ends, with what holds in each round. -/
theorem iter_inv {S T : Type} {body : S → Option (S ⊕ T)} (I : S → Prop) (Q : T → Prop) (step : ∀ s y, I s → body s = some (.inl y) → I y) (last : ∀ s r, I s → body s = some (.inr r) → Q r)
    {s : S} (h : I s) {r : T} (hr : iter body s = some r) : Q r := by
  obtain ⟨k, hk⟩ := iter_some hr
  clear hr
  induction k generalizing s with
  | zero => cases hk
  | succ k ih =>
    simp only [iterN] at hk
    cases hb : body s with
    | none => rw [hb] at hk; cases hk
    | some o =>
      rw [hb] at hk
      cases o with
      | inl y => exact ih (step s y h hb) hk
      | inr q => cases hk; exact last s _ h hb
end Go.Tv
