/- LeastCopies: true, whatever the input. -/
import Derived.Test.YtnnbofkcfooljaaTvLam
import Derived.Test.YtnnbofkcfooljaaTvT05xLeastCopies
import Derived.KernelRfl
namespace Go.Proofs.Ytnnbofkcfooljaa.T
open Go Go.Tv Go.Proofs

theorem tmod_nat {a b : Nat} : Int.tmod (a : Int) (b : Int) = ((a % b : Nat) : Int) := by
  rw [Int.tmod_eq_emod_of_nonneg (by omega)]; rfl

section
variable {nx : List (List Int)} {ot : List Int} {n c : Nat} (h : OkA nx ot n c) (h5 : n ≤ 500) {x2 : List Int} (hx : x2.length ≤ 9223372036854775807)
include h h5 hx

theorem copy_row {i : Nat} (hi : i < 2 * n) : iter (stanzalaw05_LeastCopies_L1 x2 (nx, ot) (i : Int)) (([] : List Int), (0 : Int)) = some ((List.range c).map (wayC nx n x2 i)) := by
  have hn := h.hn
  have hcs := h.cs
  have hm := Nat.mod_lt i h.pos
  have hrow := h.row (i % n) hm
  exact iter_count (body := stanzalaw05_LeastCopies_L1 x2 (nx, ot) (i : Int)) (fun k => ((List.range k).map (wayC nx n x2 i), (k : Int))) c (r := (List.range c).map (wayC nx n x2 i)) (fun k hk => by
    have hw := h.way (i % n) k hm hk
    have hw2 : IntKind.i64.wrap ((i : Int) + (k : Int)) = ((i + k : Nat) : Int) := by rw [wrap_i64 (by omega) (by omega)]; omega
    have hwk : IntKind.i64.wrap ((k : Int) + 1) = ((k + 1 : Nat) : Int) := by rw [wrap_i64 (by omega) (by omega)]; omega
    have hp : (if decide ((x2.length : Int) > (0 : Int)) = true then (if ¬ (x2.length : Int) = 0 then (if 0 ≤ (Int.tmod ((i + k : Nat) : Int) (x2.length : Int)) ∧ (Int.tmod ((i + k : Nat) : Int) (x2.length : Int)) < (x2.length : Int) then (if ¬ (2 : Int) = 0 then some (((Int.tmod (x2.getD ((Int.tmod ((i + k : Nat) : Int) (x2.length : Int)).toNat) (0 : Int)) (2 : Int)) != (0 : Int))) else none) else none) else none) else some false) = some (pickC x2 i k) := by
      unfold pickC
      by_cases hp : 0 < x2.length
      · have hm := Nat.mod_lt (i + k) hp
        rw [if_pos (by simp only [decide_eq_true_eq]; omega), if_pos (by omega), tmod_nat, if_pos ⟨by omega, by omega⟩, if_pos (by decide), Int.toNat_natCast, if_pos hp]
      · rw [if_neg (by simp only [decide_eq_true_eq]; omega), if_neg hp]
    simp only [stanzalaw05_LeastCopies_L1, hw2, hn, tmod_nat, Int.toNat_natCast]
    simp only [tmod_nat, Int.toNat_natCast] at hp
    rw [if_pos (by simp only [decide_eq_true_eq]; omega), if_pos ⟨by omega, by omega⟩, hp]
    simp only [Option.bind_some]
    have ht : (if pickC x2 i k = true then some (IntKind.i64.wrap ((nx.getD (i % n) []).getD k 0 + (n : Int))) else some ((nx.getD (i % n) []).getD k 0)) = some (wayC nx n x2 i k) := by
      unfold wayC
      split
      · rw [wrap_i64 (by omega) (by omega)]
      · rfl
    rw [ht]
    simp only [Option.bind_some]
    rw [if_pos ⟨by simp only [List.length_map, List.length_range, List.length_cons, List.length_nil]; omega, by simp only [List.length_map, List.length_range, List.length_cons, List.length_nil]; omega⟩, hwk, List.range_succ, List.map_append]
    rfl) (by
    simp only [stanzalaw05_LeastCopies_L1, hn, tmod_nat, Int.toNat_natCast]
    rw [if_neg (by simp only [decide_eq_true_eq]; omega)])
theorem copy_loop : iter (stanzalaw05_LeastCopies_L2 x2 (nx, ot)) (([] : List (List Int)), ([] : List Int), (0 : Int)) = some (copN nx n c x2 (2 * n), copO ot n (2 * n)) := by
  have hn := h.hn
  have ho := h.ho
  have hp := h.pos
  have hw2 : IntKind.i64.wrap ((2 : Int) * (n : Int)) = ((2 * n : Nat) : Int) := by rw [wrap_i64 (by omega) (by omega)]; omega
  exact iter_count (body := stanzalaw05_LeastCopies_L2 x2 (nx, ot)) (fun i => (copN nx n c x2 i, copO ot n i, (i : Int))) (2 * n) (r := (copN nx n c x2 (2 * n), copO ot n (2 * n))) (fun i hi => by
    have hm := Nat.mod_lt i hp
    have l1 : (copN nx n c x2 i).length = i := by simp [copN]
    have l2 : (copO ot n i).length = i := by simp [copO]
    have hwk : IntKind.i64.wrap ((i : Int) + 1) = ((i + 1 : Nat) : Int) := by rw [wrap_i64 (by omega) (by omega)]; omega
    simp only [stanzalaw05_LeastCopies_L2, hn, hw2, tmod_nat, Int.toNat_natCast]
    rw [if_pos (by simp only [decide_eq_true_eq]; omega), if_pos (by omega), if_pos ⟨by omega, by omega⟩, copy_row h h5 hx hi]
    simp only [Option.bind_some]
    rw [if_pos ⟨by simp only [l1, List.length_cons, List.length_nil]; omega, by simp only [l1, List.length_cons, List.length_nil]; omega⟩, if_pos (by omega), if_pos ⟨by omega, by omega⟩, if_pos ⟨by simp only [l2, List.length_cons, List.length_nil]; omega, by simp only [l2, List.length_cons, List.length_nil]; omega⟩, hwk]
    simp only [copN, copO, List.range_succ, List.map_append]
    rfl) (by
    simp only [stanzalaw05_LeastCopies_L2, hn, hw2]
    rw [if_neg (by simp only [decide_eq_true_eq]; omega)])
end

theorem awake : stanzalaw05_Awake = some true := by kernel_rfl

theorem leastCopies_true {d1 i1 x2 : List Int} {x1 : Int} (h0 : ∀ x ∈ d1, 0 ≤ x) (h1 : 0 ≤ x1 ∧ x1 ≤ 255) (hi : i1.length ≤ 9223372036854775807) (hx : x2.length ≤ 9223372036854775807) : stanzalaw05_LeastCopies d1 i1 x1 x2 = some true := by
  have hc : IntKind.i64.wrap (Int.tmod x1 (4 : Int)) = (((x1 % 4).toNat : Nat) : Int) := by
    rw [Int.tmod_eq_emod_of_nonneg h1.1, wrap_i64 (by omega) (by omega)]; omega
  have hc4 : (x1 % 4).toNat ≤ 3 := by omega
  unfold stanzalaw05_LeastCopies
  rw [awake, made_eq hc hc4 hi]
  simp only [Option.bind_some, Bool.not_true, Bool.false_eq_true, if_false]
  have hl : (madeN d1 i1 (x1 % 4).toNat (min d1.length 30)).length = min d1.length 30 := by simp [madeN]
  by_cases hd : 0 < d1.length
  · have ok := made_ok (i1 := i1) hd hc4 h0
    obtain ⟨x, e1, e2⟩ := copy_same ok (by omega) (x2 := x2)
    rw [if_neg (by simp only [beq_iff_eq]; omega), copy_loop ok (by omega) hx]
    simp only [Option.bind_some]
    rw [e1]
    simp only [Option.bind_some]
    rw [e2]
    simp only [Option.bind_some]
    rw [if_pos (by simp), if_pos (by simp), same_auto (make_small ok e1)]
    rfl
  · rw [if_pos (by simp only [beq_iff_eq]; omega)]
end Go.Proofs.Ytnnbofkcfooljaa.T
