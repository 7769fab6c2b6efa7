/- Least: rounds of split. -/
import Derived.Test.YtnnbofkcfooljaaTvLc
namespace Go.Proofs.Ytnnbofkcfooljaa.T
open Go Go.Tv Go.Proofs

/-- Finer keys: no fewer kinds; if as many, the same ones. -/
theorem finer {B B' : Nat → List UInt8} : ∀ n, (∀ s t, s < n → t < n → B' s = B' t → B s = B t) →
    (dist B n).length ≤ (dist B' n).length ∧ ((dist B n).length = (dist B' n).length → ∀ s t, s < n → t < n → B s = B t → B' s = B' t)
  | 0, _ => ⟨Nat.le_refl _, fun _ s t hs => absurd hs (by omega)⟩
  | n + 1, h => by
    obtain ⟨i1, i2⟩ := finer n fun s t hs ht => h s t (by omega) (by omega)
    simp only [dist]
    by_cases h' : B' n ∈ dist B' n
    · obtain ⟨s0, q1, q2⟩ := dist_of h'
      have q3 := h s0 n (by omega) (by omega) q2
      have hb : B n ∈ dist B n := by rw [← q3]; exact dist_mem q1
      rw [if_pos h', if_pos hb]
      refine ⟨i1, fun e s t hs ht est => ?_⟩
      have key : ∀ s, s < n → B s = B n → B' s = B' n := fun s hs est => by rw [← q2]; exact i2 e s s0 hs q1 (by rw [est, q3])
      rcases Nat.lt_or_ge s n with hs' | hs' <;> rcases Nat.lt_or_ge t n with ht' | ht'
      · exact i2 e s t hs' ht' est
      · obtain rfl : t = n := by omega
        exact key s hs' est
      · obtain rfl : s = n := by omega
        exact (key t ht' est.symm).symm
      · obtain rfl : s = n := by omega
        obtain rfl : t = s := by omega
        rfl
    · rw [if_neg h']
      by_cases hb : B n ∈ dist B n
      · rw [if_pos hb]
        simp only [List.length_append, List.length_cons, List.length_nil]
        exact ⟨by omega, fun e => absurd e (by omega)⟩
      · rw [if_neg hb]
        simp only [List.length_append, List.length_cons, List.length_nil]
        refine ⟨by omega, fun e s t hs ht est => ?_⟩
        rcases Nat.lt_or_ge s n with hs' | hs' <;> rcases Nat.lt_or_ge t n with ht' | ht'
        · exact i2 (by omega) s t hs' ht' est
        · obtain rfl : t = n := by omega
          exact absurd (by rw [← est]; exact dist_mem hs') hb
        · obtain rfl : s = n := by omega
          exact absurd (by rw [est]; exact dist_mem ht') hb
        · obtain rfl : s = n := by omega
          obtain rfl : t = s := by omega
          rfl

/-- An automaton of n states and c classes. -/
structure OkA (nx : List (List Int)) (ot : List Int) (n c : Nat) : Prop where
  hn : nx.length = n
  ho : ot.length = n
  pos : 0 < n
  small : n ≤ 1000
  cs : c ≤ 1000
  row : ∀ s, s < n → (nx.getD s []).length = c
  way : ∀ s k, s < n → k < c → 0 ≤ (nx.getD s []).getD k 0 ∧ (nx.getD s []).getD k 0 < (n : Int)
  out : ∀ s, s < n → In32 (ot.getD s 0)

def dl (nx : List (List Int)) (s k : Nat) : Nat := ((nx.getD s []).getD k 0).toNat

theorem OkA.dl_lt {nx : List (List Int)} {ot : List Int} {n c : Nat} (h : OkA nx ot n c) {s k : Nat} (hs : s < n) (hk : k < c) : dl nx s k < n := by
  have := h.way s k hs hk
  unfold dl
  omega

section
variable {nx : List (List Int)} {ot : List Int} {n c : Nat} (h : OkA nx ot n c)
include h

theorem key1 {s : Nat} (hs : s < n) : least_Make_1_v2 (s : Int) nx ot [] = some [ot.getD s 0] := by
  have ho := h.ho
  have hw : IntKind.i64.wrap (ot.getD s 0) = ot.getD s 0 := by
    obtain ⟨a, b⟩ := h.out s hs
    exact wrap_i64 (by omega) (by omega)
  unfold least_Make_1_v2
  simp only [Int.toNat_natCast, hw]
  rw [if_pos ⟨by omega, by omega⟩, if_pos ⟨by simp, by simp⟩]
  rfl

/-- A state's key in later rounds. -/
def key2 (kd : List Int) (nx : List (List Int)) (s : Nat) : List Int := kd.getD s 0 :: (nx.getD s []).map fun t => kd.getD t.toNat 0

theorem key2_eq {kd : List Int} (hk : kd.length = n) {s : Nat} (hs : s < n) : least_Make_2_v2 (s : Int) kd nx ot [] = some (key2 kd nx s) := by
  have hn := h.hn
  have hrow := h.row s hs
  have hc := h.cs
  unfold least_Make_2_v2
  simp only [Int.toNat_natCast, List.nil_append]
  rw [if_pos ⟨by omega, by omega⟩, if_pos ⟨by simp, by simp⟩, if_pos ⟨by omega, by omega⟩]
  have hi := iter_count (body := least_Make_2_v2_L1 (s : Int) kd nx) (fun k => (kd.getD s 0 :: ((nx.getD s []).take k).map (fun t => kd.getD t.toNat 0), (k : Int))) (nx.getD s []).length (r := key2 kd nx s) (fun k hkl => by
    have hw := h.way s k hs (by omega)
    have hg : (nx.getD s [])[k]? = some ((nx.getD s []).getD k 0) := by
      generalize nx.getD s [] = l at hkl
      rw [List.getD_eq_getElem?_getD, List.getElem?_eq_getElem hkl]; rfl
    have e : ((nx.getD s []).take (k + 1)).map (fun t => kd.getD t.toNat 0) = ((nx.getD s []).take k).map (fun t => kd.getD t.toNat 0) ++ [kd.getD ((nx.getD s []).getD k 0).toNat 0] := by
      rw [List.take_add_one, List.map_append, hg]
      rfl
    simp only [least_Make_2_v2_L1, Int.toNat_natCast]
    rw [if_pos (by simp only [decide_eq_true_eq]; omega), if_pos ⟨by omega, by omega⟩, if_pos ⟨by omega, by omega⟩]
    have hl : (((nx.getD s []).take k).map (fun t => kd.getD t.toNat 0)).length ≤ 1000 := by simp only [List.length_map, List.length_take]; omega
    rw [if_pos ⟨by simp only [List.length_cons, List.length_nil]; omega, by simp only [List.length_cons, List.length_nil]; omega⟩, wrap_i64 (by omega) (by omega), e]
    rfl) (by simp [least_Make_2_v2_L1, key2])
  have hi' : iter (least_Make_2_v2_L1 (s : Int) kd nx) ([kd.getD s 0], (0 : Int)) = some (key2 kd nx s) := hi
  rw [hi']
  rfl

theorem split1 : least_split (ot.length : Int) nx ot = some ((List.range n).map (kap (fun s => code [ot.getD s 0]) n)) := by
  have ho := h.ho
  have hs := h.small
  unfold least_split
  rw [ho, if_pos ⟨by omega, by omega, by omega, by omega⟩, split_is, Int.toNat_natCast]
  rw [splitL_eq (fun s k => least_Make_1_v2 s nx ot k) (fun s => [ot.getD s 0]) n (by omega) (fun s hs => key1 h hs) (fun s hs => by simp)]
  rfl

theorem split2 {kd : List Int} (hk : kd.length = n) : least_split_v1 (kd.length : Int) kd nx ot = some ((List.range n).map (kap (fun s => code (key2 kd nx s)) n)) := by
  have hs := h.small
  unfold least_split_v1
  rw [hk, if_pos ⟨by omega, by omega, by omega, by omega⟩, split1_is, Int.toNat_natCast]
  rw [splitL_eq (fun s k => least_Make_2_v2 s kd nx ot k) (fun s => key2 kd nx s) n (by omega) (fun s hs => key2_eq h hk hs) (fun s hs => by
    simp only [key2, List.length_cons, List.length_map, h.row s hs]
    have := h.cs
    omega)]
  rfl
end
end Go.Proofs.Ytnnbofkcfooljaa.T
