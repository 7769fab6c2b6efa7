/- Plain lemmas: numbers of kinds, bits, the first one that is so. -/
import Derived.Test.YtnjdmbifjbahdaaTvYa
namespace Go.Tv
open Go

theorem wrap_i32 {x : Int} (h1 : -2147483648 ≤ x) (h2 : x ≤ 2147483647) : IntKind.i32.wrap x = x := by
  simp [IntKind.wrap, IntKind.bits, IntKind.signed]; omega
theorem wrap_u8 {x : Int} (h1 : 0 ≤ x) (h2 : x ≤ 255) : IntKind.u8.wrap x = x := by
  simp [IntKind.wrap, IntKind.bits, IntKind.signed]; omega
theorem wrap_u16 {x : Int} (h1 : 0 ≤ x) (h2 : x ≤ 65535) : IntKind.u16.wrap x = x := by
  simp [IntKind.wrap, IntKind.bits, IntKind.signed]; omega
theorem wrap_u32 {x : Int} (h1 : 0 ≤ x) (h2 : x ≤ 4294967295) : IntKind.u32.wrap x = x := by
  simp [IntKind.wrap, IntKind.bits, IntKind.signed]; omega
theorem wrap_u64 {x : Int} (h1 : 0 ≤ x) (h2 : x ≤ 18446744073709551615) : IntKind.u64.wrap x = x := by
  simp [IntKind.wrap, IntKind.bits, IntKind.signed]; omega
theorem wrap_u64' (x : Int) : IntKind.u64.wrap x = x % 18446744073709551616 := by
  simp [IntKind.wrap, IntKind.bits, IntKind.signed]
theorem wrap_u8' (x : Int) : IntKind.u8.wrap x = x % 256 := by
  simp [IntKind.wrap, IntKind.bits, IntKind.signed]

theorem ofInt_nat {n : Nat} {x : Int} (h1 : 0 ≤ x) (h2 : x < 2 ^ n) : (BitVec.ofInt n x).toNat = x.toNat := by
  rw [BitVec.toNat_ofInt]
  have e : x % ((2 ^ n : Nat) : Int) = x := Int.emod_eq_of_lt h1 (by exact_mod_cast h2)
  rw [e]

/-- The low bits of a number. -/
theorem and_i32 {x : Int} (h1 : 0 ≤ x) (h2 : x ≤ 2147483647) {k : Nat} (hk : k ≤ 31) : bitsOf .and .i32 x ((2 ^ k - 1 : Nat) : Int) = x % ((2 ^ k : Nat) : Int) := by
  have hk2 : (2 : Nat) ^ k ≤ 2 ^ 31 := Nat.pow_le_pow_right (by decide) hk
  have hp : 0 < (2 : Nat) ^ k := Nat.pow_pos (by decide)
  have e31 : (2 : Nat) ^ 31 = 2147483648 := by decide
  have e32 : (2 : Int) ^ 32 = 4294967296 := by decide
  show IntKind.i32.wrap ((BitVec.ofInt IntKind.i32.bits x &&& BitVec.ofInt IntKind.i32.bits ((2 ^ k - 1 : Nat) : Int)).toNat : Int) = _
  rw [BitVec.toNat_and, ofInt_nat h1 (by show x < (2 : Int) ^ 32; omega), ofInt_nat (by omega) (by show ((2 ^ k - 1 : Nat) : Int) < (2 : Int) ^ 32; omega), Int.toNat_natCast, Nat.and_two_pow_sub_one_eq_mod]
  have hm := Nat.mod_lt x.toNat hp
  have hm2 := Nat.mod_le x.toNat (2 ^ k)
  rw [wrap_i32 (by omega) (by omega)]
  have : ((x.toNat : Nat) : Int) = x := by omega
  rw [Int.natCast_emod, this]
theorem and_u8 {x : Int} (h1 : 0 ≤ x) (h2 : x ≤ 255) {k : Nat} (hk : k ≤ 8) : bitsOf .and .u8 x ((2 ^ k - 1 : Nat) : Int) = x % ((2 ^ k : Nat) : Int) := by
  have hk2 : (2 : Nat) ^ k ≤ 2 ^ 8 := Nat.pow_le_pow_right (by decide) hk
  have hp : 0 < (2 : Nat) ^ k := Nat.pow_pos (by decide)
  have e8 : (2 : Nat) ^ 8 = 256 := by decide
  have e8' : (2 : Int) ^ 8 = 256 := by decide
  show IntKind.u8.wrap ((BitVec.ofInt IntKind.u8.bits x &&& BitVec.ofInt IntKind.u8.bits ((2 ^ k - 1 : Nat) : Int)).toNat : Int) = _
  rw [BitVec.toNat_and, ofInt_nat h1 (by show x < (2 : Int) ^ 8; omega), ofInt_nat (by omega) (by show ((2 ^ k - 1 : Nat) : Int) < (2 : Int) ^ 8; omega), Int.toNat_natCast, Nat.and_two_pow_sub_one_eq_mod]
  have hm := Nat.mod_lt x.toNat hp
  have hm2 := Nat.mod_le x.toNat (2 ^ k)
  rw [wrap_u8 (by omega) (by omega)]
  have : ((x.toNat : Nat) : Int) = x := by omega
  rw [Int.natCast_emod, this]
/-- Bits put together that don't meet. -/
theorem or_i32 {a y : Int} {k : Nat} (ha : 0 ≤ a) (hy : 0 ≤ y) (hyk : y < ((2 ^ k : Nat) : Int)) (hs : a * ((2 ^ k : Nat) : Int) + y ≤ 2147483647) : bitsOf .or .i32 (a * ((2 ^ k : Nat) : Int)) y = a * ((2 ^ k : Nat) : Int) + y := by
  have e32 : (2 : Int) ^ 32 = 4294967296 := by decide
  have hnn : 0 ≤ a * ((2 ^ k : Nat) : Int) := Int.mul_nonneg ha (by omega)
  show IntKind.i32.wrap ((BitVec.ofInt IntKind.i32.bits (a * ((2 ^ k : Nat) : Int)) ||| BitVec.ofInt IntKind.i32.bits y).toNat : Int) = _
  rw [BitVec.toNat_or, ofInt_nat hnn (by show a * ((2 ^ k : Nat) : Int) < (2 : Int) ^ 32; omega), ofInt_nat hy (by show y < (2 : Int) ^ 32; omega)]
  have e1 : (a * ((2 ^ k : Nat) : Int)).toNat = a.toNat <<< k := by
    rw [Nat.shiftLeft_eq, Int.toNat_mul ha (by omega), Int.toNat_natCast]
  rw [e1, ← Nat.shiftLeft_add_eq_or_of_lt (show y.toNat < 2 ^ k by omega), ← e1]
  rw [wrap_i32 (by omega) (by omega)]
  omega

/-- The first of n that is so; n: none. -/
def firstN (P : Nat → Bool) : Nat → Nat
  | 0 => 0
  | n + 1 => if P 0 then 0 else firstN (fun x => P (x + 1)) n + 1
theorem firstN_le : ∀ (P : Nat → Bool) (n : Nat), firstN P n ≤ n
  | _, 0 => Nat.le_refl _
  | P, n + 1 => by
    have := firstN_le (fun x => P (x + 1)) n
    simp only [firstN]
    split <;> omega
theorem firstN_lt : ∀ (P : Nat → Bool) (n : Nat) {j : Nat}, j < firstN P n → P j = false
  | _, 0, j, h => absurd h (by simp [firstN])
  | P, n + 1, j, h => by
    simp only [firstN] at h
    split at h
    · omega
    · rename_i h0
      cases j with
      | zero => simpa using h0
      | succ j => exact firstN_lt (fun x => P (x + 1)) n (j := j) (by omega)
theorem firstN_at : ∀ (P : Nat → Bool) (n : Nat), firstN P n < n → P (firstN P n) = true
  | _, 0, h => absurd h (by simp)
  | P, n + 1, h => by
    simp only [firstN] at h ⊢
    split
    · assumption
    · rename_i h0
      rw [if_neg h0] at h
      exact firstN_at (fun x => P (x + 1)) n (by omega)
theorem firstN_uniq {P : Nat → Bool} {n k : Nat} (h1 : k ≤ n) (h2 : ∀ j, j < k → P j = false) (h3 : k < n → P k = true) : firstN P n = k := by
  have a1 := firstN_le P n
  rcases Nat.lt_trichotomy (firstN P n) k with h | h | h
  · have := firstN_at P n (by omega)
    rw [h2 _ h] at this; cases this
  · exact h
  · have := firstN_lt P n h
    rw [h3 (by omega)] at this; cases this

theorem getD_lt {α : Type} {l : List α} {i : Nat} {d : α} (h : i < l.length) : l.getD i d = l[i] := by
  rw [List.getD_eq_getElem?_getD, List.getElem?_eq_getElem h]; rfl
theorem getD_mem' {α : Type} {l : List α} {i : Nat} {d : α} (h : i < l.length) : l.getD i d ∈ l := by
  rw [getD_lt h]; exact List.getElem_mem h
theorem take_succ' {α : Type} {l : List α} {i : Nat} {d : α} (h : i < l.length) : l.take (i + 1) = l.take i ++ [l.getD i d] := by
  rw [List.take_add_one, List.getElem?_eq_getElem h, getD_lt h]; rfl
theorem drop_cons' {α : Type} {l : List α} {i : Nat} {d : α} (h : i < l.length) : l.drop i = l.getD i d :: l.drop (i + 1) := by
  rw [getD_lt h]; exact List.drop_eq_getElem_cons h

/-- One round, and then the rest. -/
theorem iter_case {S T : Type} {body : S → Option (S ⊕ T)} {s : S} {Q : T → Prop} (h : ∃ o, body s = some o ∧ (match o with | .inl y => ∃ r, iter body y = some r ∧ Q r | .inr r => Q r)) : ∃ r, iter body s = some r ∧ Q r := by
  obtain ⟨o, h1, h2⟩ := h
  rw [iter_eq, h1]
  cases o with
  | inl y => exact h2
  | inr r => exact ⟨r, rfl, h2⟩
end Go.Tv
