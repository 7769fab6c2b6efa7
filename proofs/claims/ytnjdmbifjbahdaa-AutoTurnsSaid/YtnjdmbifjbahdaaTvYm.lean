/- Loops in plain laws. -/
import Derived.Test.YtnjdmbifjbahdaaTvR
import Derived.Test.YtnjdmbifjbahdaaTvT04ya
namespace Go.Tv
open Go
section
variable {S T S' T' : Type}
theorem iter_count {body : S → Option (S ⊕ T)} (st : Nat → S) (n : Nat) {r : T} (h : ∀ k, k < n → body (st k) = some (.inl (st (k + 1)))) (he : body (st n) = some (.inr r)) : iter body (st 0) = some r := by
  have key : ∀ m k, k + m = n → iter body (st k) = some r := fun m => by
    induction m with
    | zero =>
      intro k hk
      obtain rfl : k = n := by omega
      rw [iter_eq, he]
    | succ m ih =>
      intro k hk
      rw [iter_eq, h k (by omega)]
      exact ih (k + 1) (by omega)
  exact key n 0 (by omega)
theorem iter_rule {body : S → Option (S ⊕ T)} (I : S → Prop) (μ : S → Nat) (Q : T → Prop) (step : ∀ s, I s → (∃ y, body s = some (.inl y) ∧ I y ∧ μ y < μ s) ∨ ∃ r, body s = some (.inr r) ∧ Q r) {s : S} (h : I s) : ∃ r, iter body s = some r ∧ Q r := by
  have key : ∀ m s, I s → μ s ≤ m → ∃ r, iter body s = some r ∧ Q r := fun m => by
    induction m with
    | zero =>
      intro s hs hm
      rcases step s hs with ⟨y, _, _, h3⟩ | ⟨r, h1, h2⟩
      · omega
      · exact ⟨r, by rw [iter_eq, h1], h2⟩
    | succ m ih =>
      intro s hs hm
      rcases step s hs with ⟨y, h1, h2, h3⟩ | ⟨r, h1, h2⟩
      · obtain ⟨r, h4, h5⟩ := ih y h2 (by omega)
        exact ⟨r, by rw [iter_eq, h1]; exact h4, h5⟩
      · exact ⟨r, by rw [iter_eq, h1], h2⟩
  exact key (μ s) s h (Nat.le_refl _)
end
theorem wrap_i64 {x : Int} (h1 : -9223372036854775808 ≤ x) (h2 : x ≤ 9223372036854775807) : IntKind.i64.wrap x = x := by
  simp only [IntKind.wrap, IntKind.min, IntKind.max]
  first | omega | (simp [IntKind.bits, IntKind.signed]; omega)
end Go.Tv
namespace Go.Proofs.Ytnjdmbifjbahdaa.T
open Go Go.Tv Go.Proofs
set_option maxRecDepth 1000000 in
theorem awake04 : stanzalaw04_Awake = some true := by kernel_rfl
end Go.Proofs.Ytnjdmbifjbahdaa.T
namespace Go.Tv
open Go
end Go.Tv
namespace Go.Tv
open Go
theorem wrap_u8 {x : Int} (h1 : 0 ≤ x) (h2 : x ≤ 255) : IntKind.u8.wrap x = x := by
  simp [IntKind.wrap, IntKind.bits, IntKind.signed]; omega
theorem wrap_u32 {x : Int} (h1 : 0 ≤ x) (h2 : x ≤ 4294967295) : IntKind.u32.wrap x = x := by
  simp [IntKind.wrap, IntKind.bits, IntKind.signed]; omega
theorem wrap_u64 {x : Int} (h1 : 0 ≤ x) (h2 : x ≤ 18446744073709551615) : IntKind.u64.wrap x = x := by
  simp [IntKind.wrap, IntKind.bits, IntKind.signed]; omega
theorem ofInt_nat {n : Nat} {x : Int} (h1 : 0 ≤ x) (h2 : x < 2 ^ n) : (BitVec.ofInt n x).toNat = x.toNat := by
  rw [BitVec.toNat_ofInt]
  have e : x % ((2 ^ n : Nat) : Int) = x := Int.emod_eq_of_lt h1 (by exact_mod_cast h2)
  rw [e]
def firstN (P : Nat → Bool) : Nat → Nat
  | 0 => 0
  | n + 1 => if P 0 then 0 else firstN (fun x => P (x + 1)) n + 1
theorem firstN_le : ∀ (P : Nat → Bool) (n : Nat), firstN P n ≤ n
  | _, 0 => Nat.le_refl _
  | P, n + 1 => by
    have := firstN_le (fun x => P (x + 1)) n
    simp only [firstN]
    split <;> omega
theorem firstN_lt : ∀ (P : Nat → Bool) (n : Nat) {j : Nat}, j < firstN P n → P j = false
  | _, 0, j, h => absurd h (by simp [firstN])
  | P, n + 1, j, h => by
    simp only [firstN] at h
    split at h
    · omega
    · rename_i h0
      cases j with
      | zero => simpa using h0
      | succ j => exact firstN_lt (fun x => P (x + 1)) n (j := j) (by omega)
theorem firstN_at : ∀ (P : Nat → Bool) (n : Nat), firstN P n < n → P (firstN P n) = true
  | _, 0, h => absurd h (by simp)
  | P, n + 1, h => by
    simp only [firstN] at h ⊢
    split
    · assumption
    · rename_i h0
      rw [if_neg h0] at h
      exact firstN_at (fun x => P (x + 1)) n (by omega)
theorem getD_lt {α : Type} {l : List α} {i : Nat} {d : α} (h : i < l.length) : l.getD i d = l[i] := by
  rw [List.getD_eq_getElem?_getD, List.getElem?_eq_getElem h]; rfl
theorem getD_mem' {α : Type} {l : List α} {i : Nat} {d : α} (h : i < l.length) : l.getD i d ∈ l := by
  rw [getD_lt h]; exact List.getElem_mem h
theorem take_succ' {α : Type} {l : List α} {i : Nat} {d : α} (h : i < l.length) : l.take (i + 1) = l.take i ++ [l.getD i d] := by
  rw [List.take_add_one, List.getElem?_eq_getElem h, getD_lt h]; rfl
theorem drop_cons' {α : Type} {l : List α} {i : Nat} {d : α} (h : i < l.length) : l.drop i = l.getD i d :: l.drop (i + 1) := by
  rw [getD_lt h]; exact List.drop_eq_getElem_cons h
end Go.Tv
