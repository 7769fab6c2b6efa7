/- LeastNumbers: other numbers for the states; the automaton so numbered. -/
import Derived.Test.YtnnbofkcfooljaaTvLv
import Derived.Test.YtnnbofkcfooljaaTvT05xLeastNumbers
namespace Go.Proofs.Ytnnbofkcfooljaa.T
open Go Go.Tv Go.Proofs

/-- Numbers for n states: each once, 0 for 0. -/
structure Perm (p : List Int) (n : Nat) : Prop where
  len : p.length = n
  zero : p.getD 0 0 = 0
  ran : ∀ i, i < n → 0 ≤ p.getD i 0 ∧ p.getD i 0 < (n : Int)
  inj : ∀ i j, i < n → j < n → p.getD i 0 = p.getD j 0 → i = j

theorem swap_get {p : List Int} {i k j : Nat} (hi : i < p.length) (hk : k < p.length) : ((p.set i (p.getD k 0)).set k (p.getD i 0)).getD j 0 = if j = k then p.getD i 0 else if j = i then p.getD k 0 else p.getD j 0 := by
  rw [getD_set (by rw [List.length_set]; exact hk)]
  by_cases e : j = k
  · rw [if_pos e, if_pos e]
  · rw [if_neg e, if_neg e, getD_set hi]
theorem Perm.swap {p : List Int} {n : Nat} (h : Perm p n) {i k : Nat} (hi : i < n) (hk : k < n) (hi0 : 0 < i) (hk0 : 0 < k) : Perm ((p.set i (p.getD k 0)).set k (p.getD i 0)) n := by
  have hl := h.len
  have hg := fun j => swap_get (p := p) (i := i) (k := k) (j := j) (by omega) (by omega)
  refine ⟨by rw [List.length_set, List.length_set]; exact hl, ?_, fun j hj => ?_, fun a b ha hb e => ?_⟩
  · rw [hg, if_neg (by omega), if_neg (by omega)]; exact h.zero
  · rw [hg]
    split
    · exact h.ran i hi
    · split
      · exact h.ran k hk
      · exact h.ran j hj
  · rw [hg, hg] at e
    by_cases a1 : a = k
    · by_cases b1 : b = k
      · omega
      · rw [if_pos a1, if_neg b1] at e
        by_cases b2 : b = i
        · rw [if_pos b2] at e; have := h.inj i k hi hk e; omega
        · rw [if_neg b2] at e; have := h.inj i b hi hb e; omega
    · rw [if_neg a1] at e
      by_cases b1 : b = k
      · rw [if_pos b1] at e
        by_cases a2 : a = i
        · rw [if_pos a2] at e; have := h.inj k i hk hi e; omega
        · rw [if_neg a2] at e; have := h.inj a i ha hi e; omega
      · rw [if_neg b1] at e
        by_cases a2 : a = i
        · rw [if_pos a2] at e
          by_cases b2 : b = i
          · omega
          · rw [if_neg b2] at e; have := h.inj k b hk hb e; omega
        · rw [if_neg a2] at e
          by_cases b2 : b = i
          · rw [if_pos b2] at e; have := h.inj a k ha hk e; omega
          · rw [if_neg b2] at e; exact h.inj a b ha hb e

section
variable {nx : List (List Int)} {ot : List Int} {n c : Nat} (h : OkA nx ot n c)
include h

theorem num_L1 : iter (stanzalaw05_LeastNumbers_L1 (nx, ot)) (List.replicate n (0 : Int), (0 : Int)) = some (ints (List.range n)) := by
  have hn := h.hn
  have hsm := h.small
  have hit := iter_count (body := stanzalaw05_LeastNumbers_L1 (nx, ot)) (fun k => ((List.range k).map (fun i => ((i : Nat) : Int)) ++ List.replicate (n - k) (0 : Int), (k : Int))) n (r := ints (List.range n)) (fun k hk => by
    have hl : ((List.range k).map (fun i => ((i : Nat) : Int)) ++ List.replicate (n - k) (0 : Int)).length = n := by simp only [List.length_append, List.length_map, List.length_range, List.length_replicate]; omega
    have hs := fill_step (fun i => ((i : Nat) : Int)) 0 hk
    simp only [stanzalaw05_LeastNumbers_L1, Int.toNat_natCast, List.length_replicate, hn]
    rw [if_pos (by simp only [decide_eq_true_eq]; omega), if_pos ⟨by omega, by omega⟩, if_pos (by omega), hs, wrap_i64 (by omega) (by omega)]
    rfl) (by
    simp only [stanzalaw05_LeastNumbers_L1, Int.toNat_natCast, List.length_replicate, hn]
    rw [if_neg (by simp only [decide_eq_true_eq]; omega), Nat.sub_self, List.replicate_zero, List.append_nil]
    rfl)
  have e0 : (List.range 0).map (fun i => ((i : Nat) : Int)) ++ List.replicate (n - 0) (0 : Int) = List.replicate n 0 := by simp
  rw [e0] at hit
  exact hit

omit h in
theorem perm0 (hp : 0 < n) : Perm (ints (List.range n)) n := by
  have hg : ∀ i, i < n → (ints (List.range n)).getD i 0 = (i : Int) := fun i hi => by
    unfold ints
    exact getD_range_map (f := fun (x : Nat) => (x : Int)) hi
  exact ⟨by rw [ints_len, List.length_range], hg 0 hp, fun i hi => by rw [hg i hi]; omega, fun i j hi hj e => by rw [hg i hi, hg j hj] at e; omega⟩

theorem num_L2 (x2 : List Int) : ∃ p, iter (stanzalaw05_LeastNumbers_L2 x2 (nx, ot)) (ints (List.range n), (1 : Int)) = some p ∧ Perm p n := by
  have hn := h.hn
  have hsm := h.small
  have hp := h.pos
  refine iter_rule (body := stanzalaw05_LeastNumbers_L2 x2 (nx, ot)) (fun s => ∃ i : Nat, s.2 = (i : Int) ∧ 1 ≤ i ∧ i ≤ n + 1 ∧ Perm s.1 n) (fun s => n + 1 - s.2.toNat) _ (fun ⟨p, ii⟩ ⟨i, e, h1, h2, hP⟩ => ?_) ⟨1, rfl, Nat.le_refl _, by omega, perm0 hp⟩
  simp only at e hP
  subst e
  have hl := hP.len
  by_cases q : i < n ∧ i < x2.length
  · left
    have hw1 : IntKind.i64.wrap ((n : Int) - 1) = ((n - 1 : Nat) : Int) := by rw [wrap_i64 (by omega) (by omega)]; omega
    have hw2 : IntKind.u64.wrap ((n - 1 : Nat) : Int) = ((n - 1 : Nat) : Int) := wrap_u64 (by omega) (by omega)
    have hnn : 0 ≤ IntKind.u64.wrap (x2.getD i 0) := by rw [wrap_u64']; omega
    have hm1 := Int.tmod_nonneg ((n - 1 : Nat) : Int) hnn
    have hm2 := Int.tmod_lt_of_pos (IntKind.u64.wrap (x2.getD i 0)) (show (0 : Int) < ((n - 1 : Nat) : Int) by omega)
    obtain ⟨k, hk, hk1, hk2⟩ : ∃ k : Nat, IntKind.i64.wrap (1 + IntKind.i64.wrap (Int.tmod (IntKind.u64.wrap (x2.getD i 0)) ((n - 1 : Nat) : Int))) = (k : Int) ∧ 1 ≤ k ∧ k < n := by
      generalize Int.tmod (IntKind.u64.wrap (x2.getD i 0)) ((n - 1 : Nat) : Int) = t at hm1 hm2
      refine ⟨(1 + t).toNat, ?_, by omega, by omega⟩
      rw [wrap_i64 (x := t) (by omega) (by omega), wrap_i64 (by omega) (by omega)]
      omega
    refine ⟨((p.set i (p.getD k 0)).set k (p.getD i 0), ((i + 1 : Nat) : Int)), ?_, ⟨i + 1, rfl, by omega, by omega, hP.swap q.1 hk2 (by omega) (by omega)⟩, by simp only; omega⟩
    simp only [stanzalaw05_LeastNumbers_L2, hn, hw1, hw2, Int.toNat_natCast, hk, List.length_set]
    rw [if_pos (by simp only [decide_eq_true_eq]; omega)]
    simp only [Option.bind_some]
    rw [if_pos (by simp only [decide_eq_true_eq]; omega), if_pos ⟨by omega, by omega⟩, if_pos (by omega), if_pos ⟨by omega, by omega⟩, if_pos (by omega), if_pos ⟨by omega, by omega⟩, if_pos (by omega), if_pos ⟨by omega, by omega⟩, if_pos (by omega), if_pos ⟨by omega, by omega⟩, if_pos (by omega), wrap_i64 (by omega) (by omega)]
    rfl
  · right
    refine ⟨p, ?_, hP⟩
    simp only [stanzalaw05_LeastNumbers_L2, hn]
    by_cases q1 : i < n
    · rw [if_pos (by simp only [decide_eq_true_eq]; omega)]
      simp only [Option.bind_some]
      rw [if_neg (by simp only [decide_eq_true_eq]; omega)]
    · rw [if_neg (by simp only [decide_eq_true_eq]; omega)]
      simp

section
variable {p : List Int} (hP : Perm p n)
include hP

def rowP (p : List Int) (nx : List (List Int)) (i : Nat) : List Int := (nx.getD i []).map fun t => p.getD t.toNat 0

theorem num_L3 {i : Nat} (hi : i < n) {N : List (List Int)} (hN : N.length = n) (h0 : N.getD (p.getD i 0).toNat [] = []) :
    iter (stanzalaw05_LeastNumbers_L3 (nx, ot) p (i : Int)) (N, (0 : Int)) = some (N.set (p.getD i 0).toNat (rowP p nx i)) := by
  have hn := h.hn
  have hsm := h.small
  have hcs := h.cs
  have hl := hP.len
  have hr := h.row i hi
  have hpi := hP.ran i hi
  have hit := iter_count (body := stanzalaw05_LeastNumbers_L3 (nx, ot) p (i : Int)) (fun k => (N.set (p.getD i 0).toNat ((rowP p nx i).take k), (k : Int))) c (r := N.set (p.getD i 0).toNat (rowP p nx i)) (fun k hk => by
    have hw := h.way i k hi hk
    have hkr : k < (rowP p nx i).length := by unfold rowP; rw [List.length_map]; omega
    have hg : (N.set (p.getD i 0).toNat ((rowP p nx i).take k)).getD (p.getD i 0).toNat [] = (rowP p nx i).take k := by rw [getD_set (by omega), if_pos rfl]
    have hv : (rowP p nx i).getD k 0 = p.getD ((nx.getD i []).getD k 0).toNat 0 := by
      have hkn : k < (nx.getD i []).length := by omega
      unfold rowP
      rw [List.getD_eq_getElem?_getD, List.getElem?_map, List.getElem?_eq_getElem hkn, getD_lt hkn]; rfl
    have htl : ((rowP p nx i).take k).length ≤ 1000 := by rw [List.length_take]; omega
    simp only [stanzalaw05_LeastNumbers_L3, Int.toNat_natCast, hg, List.length_set]
    rw [if_pos (by simp only [decide_eq_true_eq]; omega), if_pos ⟨by omega, by omega⟩, if_pos ⟨by omega, by omega⟩, if_pos (by omega), if_pos ⟨by omega, by omega⟩, if_pos (by omega), if_pos ⟨by omega, by omega⟩, if_pos (by omega), if_pos ⟨by omega, by omega⟩, if_pos (by omega), if_pos ⟨by simp only [List.length_cons, List.length_nil]; omega, by simp only [List.length_cons, List.length_nil]; omega⟩, if_pos ⟨by omega, by omega⟩, if_pos ⟨trivial, by omega⟩,
      List.set_set, wrap_i64 (by omega) (by omega), take_succ' (d := 0) hkr, hv]
    rfl) (by
    simp only [stanzalaw05_LeastNumbers_L3, Int.toNat_natCast]
    rw [if_neg (by simp only [decide_eq_true_eq]; omega), List.take_of_length_le (by unfold rowP; rw [List.length_map]; omega)])
  have e0 : N.set (p.getD i 0).toNat ((rowP p nx i).take 0) = N := by
    rw [List.take_zero]
    have := set_self ([] : List Int) N (p.getD i 0).toNat
    rw [h0] at this
    exact this
  rw [e0] at hit
  exact hit

/-- The automaton, numbered so. -/
structure Num (nx : List (List Int)) (ot : List Int) (n : Nat) (p : List Int) (i : Nat) (N : List (List Int)) (O : List Int) : Prop where
  nn : N.length = n
  oo : O.length = n
  done : ∀ j, j < i → N.getD (p.getD j 0).toNat [] = rowP p nx j ∧ O.getD (p.getD j 0).toNat 0 = ot.getD j 0
  free : ∀ j, i ≤ j → j < n → N.getD (p.getD j 0).toNat [] = []

theorem num_L4 : ∃ r, iter (stanzalaw05_LeastNumbers_L4 (nx, ot) p) (List.replicate n ([] : List Int), List.replicate n (0 : Int), (0 : Int)) = some r ∧ Num nx ot n p n r.1 r.2 := by
  have hn := h.hn
  have ho := h.ho
  have hsm := h.small
  have hl := hP.len
  refine iter_rule (body := stanzalaw05_LeastNumbers_L4 (nx, ot) p) (fun s => ∃ i : Nat, s.2.2 = (i : Int) ∧ i ≤ n ∧ Num nx ot n p i s.1 s.2.1) (fun s => n - s.2.2.toNat) _ (fun ⟨N, O, ii⟩ ⟨i, e, h1, hI⟩ => ?_) ⟨0, rfl, Nat.zero_le _, ⟨by simp, by simp, fun j hj => absurd hj (by omega), fun j _ hj => ?_⟩⟩
  · simp only at e hI
    subst e
    have a1 := hI.nn
    have a2 := hI.oo
    by_cases q : i < n
    · left
      have hpi := hP.ran i q
      have h3 := num_L3 h hP q a1 (hI.free i (Nat.le_refl _) q)
      have hne : ∀ j, j < n → j ≠ i → (p.getD j 0).toNat ≠ (p.getD i 0).toNat := fun j hj hji e => by
        have hpj := hP.ran j hj
        exact hji (hP.inj j i hj q (by omega))
      refine ⟨(N.set (p.getD i 0).toNat (rowP p nx i), O.set (p.getD i 0).toNat (ot.getD i 0), ((i + 1 : Nat) : Int)), ?_, ⟨i + 1, rfl, q, ⟨by rw [List.length_set]; exact a1, by rw [List.length_set]; exact a2, fun j hj => ?_, fun j hj hjn => ?_⟩⟩, by simp only; omega⟩
      · simp only [stanzalaw05_LeastNumbers_L4, Int.toNat_natCast]
        rw [if_pos (by simp only [decide_eq_true_eq]; omega), if_pos ⟨by omega, by omega⟩, if_pos (by omega), if_pos ⟨by omega, by omega⟩, if_pos ⟨by omega, by omega⟩, if_pos (by omega), if_pos ⟨by omega, by omega⟩, h3, wrap_i64 (by omega) (by omega)]
        rfl
      · rw [getD_set (by omega), getD_set (by omega)]
        by_cases e : j = i
        · subst e; rw [if_pos rfl, if_pos rfl]; exact ⟨rfl, rfl⟩
        · rw [if_neg (hne j (by omega) e), if_neg (hne j (by omega) e)]
          exact hI.done j (by omega)
      · rw [getD_set (by omega), if_neg (hne j hjn (by omega))]
        exact hI.free j (by omega) hjn
    · right
      refine ⟨(N, O), ?_, ?_⟩
      · simp only [stanzalaw05_LeastNumbers_L4]
        rw [if_neg (by simp only [decide_eq_true_eq]; omega)]
      · have : i = n := by omega
        rw [← this]
        rw [this] at hI ⊢
        exact hI
  · have hpj := hP.ran j hj
    rw [List.getD_eq_getElem?_getD, List.getElem?_replicate]
    split <;> rfl
end
end
end Go.Proofs.Ytnnbofkcfooljaa.T
