/- Loops in plain laws. -/
import Derived.Test.YtjfjigknkhgkdaaTvR
namespace Go.Tv
open Go

section
variable {S T S' T' : Type}

/-- A loop whose states are told one by one. -/
theorem iter_count {body : S → Option (S ⊕ T)} (st : Nat → S) (n : Nat) {r : T} (h : ∀ k, k < n → body (st k) = some (.inl (st (k + 1)))) (he : body (st n) = some (.inr r)) : iter body (st 0) = some r := by
  have key : ∀ m k, k + m = n → iter body (st k) = some r := fun m => by
    induction m with
    | zero =>
      intro k hk
      obtain rfl : k = n := by omega
      rw [iter_eq, he]
    | succ m ih =>
      intro k hk
      rw [iter_eq, h k (by omega)]
      exact ih (k + 1) (by omega)
  exact key n 0 (by omega)

/-- A loop with what holds in each round, and what gets less. -/
theorem iter_rule {body : S → Option (S ⊕ T)} (I : S → Prop) (μ : S → Nat) (Q : T → Prop) (step : ∀ s, I s → (∃ y, body s = some (.inl y) ∧ I y ∧ μ y < μ s) ∨ ∃ r, body s = some (.inr r) ∧ Q r) {s : S} (h : I s) : ∃ r, iter body s = some r ∧ Q r := by
  have key : ∀ m s, I s → μ s ≤ m → ∃ r, iter body s = some r ∧ Q r := fun m => by
    induction m with
    | zero =>
      intro s hs hm
      rcases step s hs with ⟨y, _, _, h3⟩ | ⟨r, h1, h2⟩
      · omega
      · exact ⟨r, by rw [iter_eq, h1], h2⟩
    | succ m ih =>
      intro s hs hm
      rcases step s hs with ⟨y, h1, h2, h3⟩ | ⟨r, h1, h2⟩
      · obtain ⟨r, h4, h5⟩ := ih y h2 (by omega)
        exact ⟨r, by rw [iter_eq, h1]; exact h4, h5⟩
      · exact ⟨r, by rw [iter_eq, h1], h2⟩
  exact key (μ s) s h (Nat.le_refl _)

/-- Two loops, round by round. -/
theorem iter_sim {body : S → Option (S ⊕ T)} {body' : S' → Option (S' ⊕ T')} (R : S → S' → Prop) (Q : T → T' → Prop)
    (step : ∀ s s' o, R s s' → body s = some o → ∃ o', body' s' = some o' ∧ (match o, o' with | .inl y, .inl y' => R y y' | .inr r, .inr r' => Q r r' | _, _ => False))
    {s : S} {s' : S'} (h : R s s') {r : T} (hr : iter body s = some r) : ∃ r', iter body' s' = some r' ∧ Q r r' := by
  obtain ⟨k, hk⟩ := iter_some hr
  clear hr
  induction k generalizing s s' with
  | zero => cases hk
  | succ k ih =>
    simp only [iterN] at hk
    cases hb : body s with
    | none => rw [hb] at hk; cases hk
    | some o =>
      obtain ⟨o', h1, h2⟩ := step s s' o h hb
      rw [hb] at hk
      cases o with
      | inl y =>
        cases o' with
        | inl y' =>
          obtain ⟨r', h3, h4⟩ := ih h2 hk
          exact ⟨r', by rw [iter_eq, h1]; exact h3, h4⟩
        | inr _ => exact h2.elim
      | inr q =>
        cases o' with
        | inl _ => exact h2.elim
        | inr q' =>
          cases hk
          exact ⟨q', by rw [iter_eq, h1], h2⟩
end

theorem wrap_i64 {x : Int} (h1 : -9223372036854775808 ≤ x) (h2 : x ≤ 9223372036854775807) : IntKind.i64.wrap x = x := by
  simp only [IntKind.wrap, IntKind.min, IntKind.max]
  first | omega | (simp [IntKind.bits, IntKind.signed]; omega)
end Go.Tv
