/- Plain lemmas: numbers of kinds, bits, the first one that is so. -/
import Derived.Test.YtjfjigknkhgkdaaTvYa
namespace Go.Tv
open Go
def firstN (P : Nat → Bool) : Nat → Nat
  | 0 => 0
  | n + 1 => if P 0 then 0 else firstN (fun x => P (x + 1)) n + 1
theorem firstN_le : ∀ (P : Nat → Bool) (n : Nat), firstN P n ≤ n
  | _, 0 => Nat.le_refl _
  | P, n + 1 => by
    have := firstN_le (fun x => P (x + 1)) n
    simp only [firstN]
    split <;> omega
theorem firstN_lt : ∀ (P : Nat → Bool) (n : Nat) {j : Nat}, j < firstN P n → P j = false
  | _, 0, j, h => absurd h (by simp [firstN])
  | P, n + 1, j, h => by
    simp only [firstN] at h
    split at h
    · omega
    · rename_i h0
      cases j with
      | zero => simpa using h0
      | succ j => exact firstN_lt (fun x => P (x + 1)) n (j := j) (by omega)
theorem firstN_at : ∀ (P : Nat → Bool) (n : Nat), firstN P n < n → P (firstN P n) = true
  | _, 0, h => absurd h (by simp)
  | P, n + 1, h => by
    simp only [firstN] at h ⊢
    split
    · assumption
    · rename_i h0
      rw [if_neg h0] at h
      exact firstN_at (fun x => P (x + 1)) n (by omega)
theorem getD_lt {α : Type} {l : List α} {i : Nat} {d : α} (h : i < l.length) : l.getD i d = l[i] := by
  rw [List.getD_eq_getElem?_getD, List.getElem?_eq_getElem h]; rfl
theorem drop_cons' {α : Type} {l : List α} {i : Nat} {d : α} (h : i < l.length) : l.drop i = l.getD i d :: l.drop (i + 1) := by
  rw [getD_lt h]; exact List.drop_eq_getElem_cons h
end Go.Tv
