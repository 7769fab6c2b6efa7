/- Least: each state doubled. -/
import Derived.Test.YtnnbofkcfooljaaTvLm
namespace Go.Proofs.Ytnnbofkcfooljaa.T
open Go Go.Tv Go.Proofs

/-- Is the second one taken? -/
def pickC (x2 : List Int) (i k : Nat) : Bool := if 0 < x2.length then (Int.tmod (x2.getD ((i + k) % x2.length) 0) 2 != 0) else false
def wayC (nx : List (List Int)) (n : Nat) (x2 : List Int) (i k : Nat) : Int := if pickC x2 i k = true then (nx.getD (i % n) []).getD k 0 + n else (nx.getD (i % n) []).getD k 0
def copN (nx : List (List Int)) (n c : Nat) (x2 : List Int) (m : Nat) : List (List Int) := (List.range m).map fun i => (List.range c).map (wayC nx n x2 i)
def copO (ot : List Int) (n m : Nat) : List Int := (List.range m).map fun i => ot.getD (i % n) 0

section
variable {nx : List (List Int)} {ot : List Int} {n c : Nat} (h : OkA nx ot n c) (h5 : n ≤ 500) {x2 : List Int} (hx : x2.length ≤ 9223372036854775807)
include h h5

theorem copy_ok : OkA (copN nx n c x2 (2 * n)) (copO ot n (2 * n)) (2 * n) c where
  hn := by simp [copN]
  ho := by simp [copO]
  pos := by have := h.pos; omega
  small := by omega
  cs := h.cs
  row s hs := by unfold copN; rw [range_getL hs]; simp
  way s k hs hk := by
    have hm := Nat.mod_lt s h.pos
    have hw := h.way (s % n) k hm hk
    unfold copN
    rw [range_getL hs, range_get hk]
    unfold wayC
    split <;> omega
  out s hs := by
    unfold copO
    rw [range_get hs]
    exact h.out _ (Nat.mod_lt s h.pos)

theorem copy_same : ∃ x, least_Make nx ot = some (x, 0) ∧ least_Make (copN nx n c x2 (2 * n)) (copO ot n (2 * n)) = some (x, 0) := by
  refine make_sim (R := fun s t => s = t % n ∧ t < 2 * n) h (copy_ok h h5) ⟨by simp, by have := h.pos; omega⟩ (fun s t hR => ⟨by rw [hR.1]; exact Nat.mod_lt _ h.pos, hR.2⟩) (fun s t hR k hk => ?_) (fun s t hR => ?_)
  · obtain ⟨rfl, ht⟩ := hR
    have hm := Nat.mod_lt t h.pos
    have hw := h.way (t % n) k hm hk
    have e : dl (copN nx n c x2 (2 * n)) t k = (wayC nx n x2 t k).toNat := by
      unfold dl copN
      rw [range_getL ht, range_get hk]
    rw [e]
    unfold wayC dl
    generalize (nx.getD (t % n) []).getD k 0 = v at hw
    split
    · have e2 : (v + (n : Int)).toNat = v.toNat + n := by omega
      rw [e2, Nat.add_mod_right, Nat.mod_eq_of_lt (by omega)]
      exact ⟨rfl, by omega⟩
    · rw [Nat.mod_eq_of_lt (by omega)]
      exact ⟨rfl, by omega⟩
  · obtain ⟨rfl, ht⟩ := hR
    unfold copO
    rw [range_get ht]
end
end Go.Proofs.Ytnnbofkcfooljaa.T
