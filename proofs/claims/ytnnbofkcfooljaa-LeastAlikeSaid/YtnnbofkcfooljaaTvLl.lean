/- Least: what Made makes. -/
import Derived.Test.YtnnbofkcfooljaaTvLk
namespace Go.Proofs.Ytnnbofkcfooljaa.T
open Go Go.Tv Go.Proofs

theorem u64_wrap (x : Int) : IntKind.u64.wrap x = x % 18446744073709551616 := by
  simp [IntKind.wrap, IntKind.bits, IntKind.signed]

def wayM (d1 i1 : List Int) (c i k : Nat) : Int :=
  IntKind.i64.wrap (Int.tmod (IntKind.u64.wrap (if 0 < i1.length then i1.getD ((i * c + k) % i1.length) 0 else 0)) (IntKind.u64.wrap (min (d1.length : Int) (30 : Int))))

theorem wayM_in {d1 i1 : List Int} (hd : 0 < d1.length) (c i k : Nat) : 0 ≤ wayM d1 i1 c i k ∧ wayM d1 i1 c i k < min (d1.length : Int) 30 := by
  unfold wayM
  rw [u64_wrap, u64_wrap]
  generalize (if 0 < i1.length then i1.getD ((i * c + k) % i1.length) 0 else 0) = v
  have e : min (d1.length : Int) 30 % 18446744073709551616 = min (d1.length : Int) 30 := by omega
  rw [e]
  have hm : 0 < min (d1.length : Int) 30 ∧ min (d1.length : Int) 30 ≤ 30 := by omega
  generalize min (d1.length : Int) 30 = m at hm
  have hv : 0 ≤ v % 18446744073709551616 := Int.emod_nonneg _ (by decide)
  rw [Int.tmod_eq_emod_of_nonneg hv]
  have h1 := Int.emod_nonneg (v % 18446744073709551616) (show m ≠ 0 by omega)
  have h2 := Int.emod_lt_of_pos (v % 18446744073709551616) hm.1
  rw [wrap_i64 (by omega) (by omega)]
  exact ⟨h1, h2⟩

section
variable {d1 i1 : List Int} {x1 : Int} {c : Nat} (hc : IntKind.i64.wrap (Int.tmod x1 (4 : Int)) = (c : Int)) (hc4 : c ≤ 3) (hi : i1.length ≤ 9223372036854775807)
include hc hc4 hi

theorem made_row (hd : 0 < d1.length) {i : Nat} (hi30 : i < 30) : iter (stanzalaw05_Made_L1 d1 i1 x1 (i : Int)) (([] : List Int), (0 : Int)) = some ((List.range c).map (wayM d1 i1 c i)) := by
  have h := iter_count (body := stanzalaw05_Made_L1 d1 i1 x1 (i : Int)) (fun k => ((List.range k).map (wayM d1 i1 c i), (k : Int))) c (r := (List.range c).map (wayM d1 i1 c i)) (fun k hk => by
    have hic : (i * c : Nat) ≤ 90 := Nat.le_trans (Nat.mul_le_mul (show i ≤ 29 by omega) hc4) (by decide)
    have hw1 : IntKind.i64.wrap ((i : Int) * (c : Int)) = ((i * c : Nat) : Int) := by
      have : (i : Int) * (c : Int) = ((i * c : Nat) : Int) := by simp
      rw [this]; exact wrap_i64 (by omega) (by omega)
    have hw2 : IntKind.i64.wrap (((i * c : Nat) : Int) + (k : Int)) = ((i * c + k : Nat) : Int) := by
      rw [wrap_i64 (by omega) (by omega)]; omega
    have hn0 : ¬ IntKind.u64.wrap (min (d1.length : Int) (30 : Int)) = 0 := by rw [u64_wrap]; omega
    simp only [stanzalaw05_Made_L1, hc, hw1, hw2]
    have hv : (if decide ((i1.length : Int) > (0 : Int)) = true then (if ¬ (i1.length : Int) = 0 then (if 0 ≤ (Int.tmod ((i * c + k : Nat) : Int) (i1.length : Int)) ∧ (Int.tmod ((i * c + k : Nat) : Int) (i1.length : Int)) < (i1.length : Int) then some (i1.getD ((Int.tmod ((i * c + k : Nat) : Int) (i1.length : Int)).toNat) (0 : Int)) else none) else none) else some (0 : Int)) =
        some (if 0 < i1.length then i1.getD ((i * c + k) % i1.length) 0 else 0) := by
      by_cases hp : 0 < i1.length
      · have hm := Nat.mod_lt (i * c + k) hp
        have e : Int.tmod ((i * c + k : Nat) : Int) (i1.length : Int) = (((i * c + k) % i1.length : Nat) : Int) := by
          rw [Int.tmod_eq_emod_of_nonneg (by omega)]; rfl
        rw [if_pos (by simp only [decide_eq_true_eq]; omega), if_pos (by omega), e, if_pos ⟨by omega, by omega⟩, Int.toNat_natCast, if_pos hp]
      · rw [if_neg (by simp only [decide_eq_true_eq]; omega), if_neg hp]
    rw [if_pos (by simp only [decide_eq_true_eq]; omega), hv]
    simp only [Option.bind_some]
    have hwk : IntKind.i64.wrap ((k : Int) + 1) = ((k + 1 : Nat) : Int) := by rw [wrap_i64 (by omega) (by omega)]; omega
    rw [if_pos hn0, if_pos ⟨by simp only [List.length_map, List.length_range, List.length_cons, List.length_nil]; omega, by simp only [List.length_map, List.length_range, List.length_cons, List.length_nil]; omega⟩, hwk]
    rw [List.range_succ, List.map_append]
    rfl) (by simp only [stanzalaw05_Made_L1, hc]; rw [if_neg (by simp)])
  exact h

def madeN (d1 i1 : List Int) (c n : Nat) : List (List Int) := (List.range n).map fun i => (List.range c).map (wayM d1 i1 c i)
def madeO (d1 : List Int) (n : Nat) : List Int := (List.range n).map fun i => Int.tmod (d1.getD i 0) 3

theorem made_eq : stanzalaw05_Made d1 i1 x1 = some (madeN d1 i1 c (min d1.length 30), madeO d1 (min d1.length 30)) := by
  have hmin : min (d1.length : Int) (30 : Int) = ((min d1.length 30 : Nat) : Int) := by omega
  have h := iter_count (body := stanzalaw05_Made_L2 d1 i1 x1) (fun i => (madeN d1 i1 c i, madeO d1 i, (i : Int))) (min d1.length 30) (r := (madeN d1 i1 c (min d1.length 30), madeO d1 (min d1.length 30))) (fun i hi' => by
    simp only [stanzalaw05_Made_L2]
    have l1 : (madeN d1 i1 c i).length = i := by simp [madeN]
    have l2 : (madeO d1 i).length = i := by simp [madeO]
    rw [hmin, if_pos (by simp only [decide_eq_true_eq]; omega), made_row hc hc4 hi (by omega) (by omega)]
    simp only [Option.bind_some]
    rw [if_pos ⟨by simp only [l1, List.length_cons, List.length_nil]; omega, by simp only [l1, List.length_cons, List.length_nil]; omega⟩, if_pos ⟨by omega, by omega⟩, if_pos (by decide), if_pos ⟨by simp only [l2, List.length_cons, List.length_nil]; omega, by simp only [l2, List.length_cons, List.length_nil]; omega⟩, wrap_i64 (by omega) (by omega)]
    simp only [Int.toNat_natCast, madeN, madeO, List.range_succ, List.map_append]
    rfl) (by simp only [stanzalaw05_Made_L2]; rw [hmin, if_neg (by simp only [decide_eq_true_eq]; omega)])
  have h' : iter (stanzalaw05_Made_L2 d1 i1 x1) (([] : List (List Int)), ([] : List Int), (0 : Int)) = some (madeN d1 i1 c (min d1.length 30), madeO d1 (min d1.length 30)) := h
  unfold stanzalaw05_Made
  rw [if_pos (by decide), h']
  rfl
end
end Go.Proofs.Ytnnbofkcfooljaa.T
