/- Place: what Spot answers, the program's and the document's. -/
import Derived.Test.YtdjjifeipeelhaaTv17d
namespace Go.Proofs.Ytdjjifeipeelhaa.T
open Go Go.Tv Go.Proofs

/-- The first of n that is so; n: none. -/
def firstN (P : Nat → Bool) : Nat → Nat
  | 0 => 0
  | n + 1 => if P 0 then 0 else firstN (fun x => P (x + 1)) n + 1
theorem firstN_le : ∀ (P : Nat → Bool) (n : Nat), firstN P n ≤ n
  | _, 0 => Nat.le_refl _
  | P, n + 1 => by
    have := firstN_le (fun x => P (x + 1)) n
    simp only [firstN]
    split <;> omega
theorem firstN_lt : ∀ (P : Nat → Bool) (n : Nat) {j : Nat}, j < firstN P n → P j = false
  | _, 0, j, h => absurd h (by simp [firstN])
  | P, n + 1, j, h => by
    simp only [firstN] at h
    split at h
    · omega
    · rename_i h0
      cases j with
      | zero => simpa using h0
      | succ j => exact firstN_lt (fun x => P (x + 1)) n (j := j) (by omega)
theorem firstN_at : ∀ (P : Nat → Bool) (n : Nat), firstN P n < n → P (firstN P n) = true
  | _, 0, h => absurd h (by simp)
  | P, n + 1, h => by
    simp only [firstN] at h ⊢
    split
    · assumption
    · rename_i h0
      rw [if_neg h0] at h
      exact firstN_at (fun x => P (x + 1)) n (by omega)
theorem firstN_uniq {P : Nat → Bool} {n k : Nat} (h1 : k ≤ n) (h2 : ∀ j, j < k → P j = false) (h3 : k < n → P k = true) : firstN P n = k := by
  have a1 := firstN_le P n
  rcases Nat.lt_trichotomy (firstN P n) k with h | h | h
  · have := firstN_at P n (by omega)
    rw [h2 _ h] at this; cases this
  · exact h
  · have := firstN_lt P n h
    rw [h3 (by omega)] at this; cases this
/-- From the end on. -/
theorem firstN_step (P : Nat → Bool) {n j : Nat} (h : j < n) : j + firstN (fun x => P (j + x)) (n - j) = if P j then j else (j + 1) + firstN (fun x => P (j + 1 + x)) (n - (j + 1)) := by
  rw [show n - j = (n - (j + 1)) + 1 by omega]
  simp only [firstN, Nat.add_zero]
  split
  · rfl
  · have : (fun x => P (j + (x + 1))) = fun x => P (j + 1 + x) := by funext x; congr 1; omega
    rw [this]; omega

section
variable {C : List C4} {O : List Int} {m : List C4} {nb tab : Int} {L : List C4} {K : List (List Int)} {pos : Nat → Int} {cut : Nat → Nat} (h : Pl C O m nb tab L K pos cut)
include h

theorem Pl.pos_mono {i j : Nat} (hij : i ≤ j) : pos i + (j - i : Nat) ≤ pos j := by
  induction j with
  | zero => obtain rfl : i = 0 := by omega
            simp
  | succ j ih =>
    by_cases e : i = j + 1
    · subst e; simp
    · have := ih (by omega); have := h.pr j; omega
theorem Pl.cut_mono {i j : Nat} (hij : i ≤ j) (hj : j ≤ L.length) : cut i ≤ cut j := by
  induction j with
  | zero => obtain rfl : i = 0 := by omega
            exact Nat.le_refl _
  | succ j ih =>
    by_cases e : i = j + 1
    · subst e; exact Nat.le_refl _
    · have h1 := ih (by omega) (by omega)
      by_cases hn : 0 < C.length
      · have := h.cr hn j (by omega); omega
      · have hm := (h.m0 (by omega)).2
        have := h.cn
        have hl : L.length = 1 := by rw [hm]; rfl
        have h0 := h.c0
        rw [hl] at this
        obtain rfl : j = 0 := by omega
        obtain rfl : i = 0 := by omega
        omega
theorem Pl.cut_le {i : Nat} (hi : i ≤ L.length) : cut i ≤ C.length := by
  have := h.cut_mono hi (Nat.le_refl _); rw [h.cn] at this; exact this

theorem end_eq : place_Map_end C O L K = some nb := by
  have hp := h.pos_in
  have hn := h.hn
  unfold place_Map_end
  by_cases h0 : 0 < C.length
  · have e1 : IntKind.i64.wrap ((C.length : Int) - 1) = ((C.length - 1 : Nat) : Int) := by rw [wrap_i64 (by omega) (by omega)]; omega
    have hc := h.cl (C.length - 1) (by omega)
    unfold z4 at hc
    rw [show C.length - 1 + 1 = C.length by omega] at hc
    have := hp (C.length - 1)
    have := hp C.length
    rw [if_pos (by simp only [decide_eq_true_eq]; omega), e1, if_pos ⟨by omega, by omega⟩, if_pos ⟨by omega, by omega⟩, Int.toNat_natCast, hc.1, hc.2, h.nb, wrap_i64 (by omega) (by omega)]
    congr 1
    omega
  · rw [if_neg (by simp only [decide_eq_true_eq]; omega), h.nb, show C.length = 0 by omega, h.p0]

omit h in
def cluOf (pos : Nat → Int) (n : Nat) (at1 : Int) : Nat := firstN (fun j => decide (pos (j + 1) > at1)) n
omit h in
def rowOf (cut : Nat → Nat) (R k : Nat) : Nat := firstN (fun j => decide (cut (j + 1) > k)) R

theorem cluster_eq {at1 : Int} : api_Cluster C at1 = some ((cluOf pos C.length at1 : Nat) : Int) := by
  have hn := h.hn
  obtain ⟨k, k1, k2, k3, k4⟩ := search_eq (is := fun i => api_Cluster_1 i at1 C) (fun j => decide (pos (j + 1) > at1)) C.length (by omega) (fun i hi => by
    have hc := h.cl i hi
    unfold z4 at hc
    have := h.pos_in (i + 1)
    unfold api_Cluster_1
    rw [if_pos ⟨by omega, by omega⟩, Int.toNat_natCast]
    unfold place_Map_Spot_1
    rw [hc.1, hc.2, wrap_i64 (by omega) (by omega)]
    simp only [Option.bind_some]
    have e : pos i + (pos (i + 1) - pos i) = pos (i + 1) := by omega
    rw [e]) (fun i j hij hj hp => by
      simp only [decide_eq_true_eq] at hp ⊢
      have := h.pos_mono (i := i + 1) (j := j + 1) (by omega)
      omega)
  have e : cluOf pos C.length at1 = k := firstN_uniq k1 k3 k4
  unfold api_Cluster sort_Search
  rw [search0, k2, e]
  rfl

theorem line_eq {k : Nat} : api_Line L (k : Int) = some ((rowOf cut L.length k : Nat) : Int) := by
  have hr := h.rows
  obtain ⟨r, k1, k2, k3, k4⟩ := search_eq (is := fun i => api_Line_1 i (k : Int) L) (fun j => decide (cut (j + 1) > k)) L.length (by omega) (fun i hi => by
    have hc := h.ln i hi
    unfold z4 at hc
    unfold api_Line_1
    rw [if_pos ⟨by omega, by omega⟩, Int.toNat_natCast]
    unfold place_Map_Spot_2
    rw [hc.2]
    simp only [Option.bind_some, Option.some.injEq, decide_eq_decide]
    omega) (fun i j hij hj hp => by
      simp only [decide_eq_true_eq] at hp ⊢
      have := h.cut_mono (i := i + 1) (j := j + 1) (by omega) (by omega)
      omega)
  have e : rowOf cut L.length k = r := firstN_uniq k1 k3 k4
  unfold api_Line sort_Search_v1
  rw [search1, k2, e]
  rfl

omit h in
/-- The row; with back the end of the one ahead. -/
def rowB (cut : Nat → Nat) (R k : Nat) (back : Bool) : Nat := if rowOf cut R k = R ∨ (back = true ∧ 0 < rowOf cut R k ∧ cut (rowOf cut R k) = k) then rowOf cut R k - 1 else rowOf cut R k

theorem clu_in {at1 : Int} (ha : 0 ≤ at1 ∧ at1 ≤ nb) : cluOf pos C.length at1 ≤ C.length ∧ pos (cluOf pos C.length at1) ≤ at1 ∧ (cluOf pos C.length at1 < C.length → at1 < pos (cluOf pos C.length at1 + 1)) ∧ (cluOf pos C.length at1 = C.length → at1 = nb) := by
  have h1 := firstN_le (fun j => decide (pos (j + 1) > at1)) C.length
  have h2 : ∀ j, j < cluOf pos C.length at1 → pos (j + 1) ≤ at1 := fun j hj => by
    have := firstN_lt (fun j => decide (pos (j + 1) > at1)) C.length hj
    simp only [decide_eq_false_iff_not] at this
    omega
  have h3 : cluOf pos C.length at1 < C.length → at1 < pos (cluOf pos C.length at1 + 1) := fun hl => by
    have := firstN_at (fun j => decide (pos (j + 1) > at1)) C.length hl
    simp only [decide_eq_true_eq] at this
    exact this
  have h4 : pos (cluOf pos C.length at1) ≤ at1 := by
    rcases Nat.eq_zero_or_pos (cluOf pos C.length at1) with e | e
    · rw [e, h.p0]; exact ha.1
    · have := h2 (cluOf pos C.length at1 - 1) (by omega)
      rwa [Nat.sub_add_cancel e] at this
  refine ⟨h1, h4, h3, fun e => ?_⟩
  rw [e, ← h.nb] at h4
  omega

theorem row_in {k : Nat} (hk : k ≤ C.length) : rowOf cut L.length k ≤ L.length ∧ (0 < rowOf cut L.length k → cut (rowOf cut L.length k) ≤ k) ∧ (rowOf cut L.length k < L.length → k < cut (rowOf cut L.length k + 1)) ∧ (rowOf cut L.length k = L.length ↔ k = C.length) := by
  have h1 := firstN_le (fun j => decide (cut (j + 1) > k)) L.length
  have h2 : ∀ j, j < rowOf cut L.length k → cut (j + 1) ≤ k := fun j hj => by
    have := firstN_lt (fun j => decide (cut (j + 1) > k)) L.length hj
    simp only [decide_eq_false_iff_not] at this
    omega
  have h3 : rowOf cut L.length k < L.length → k < cut (rowOf cut L.length k + 1) := fun hl => by
    have := firstN_at (fun j => decide (cut (j + 1) > k)) L.length hl
    simp only [decide_eq_true_eq] at this
    exact this
  have hr := h.rows
  refine ⟨h1, fun e => ?_, h3, fun e => ?_, fun e => ?_⟩
  · have := h2 (rowOf cut L.length k - 1) (by omega)
    rwa [Nat.sub_add_cancel e] at this
  · have := h2 (L.length - 1) (by omega)
    rw [Nat.sub_add_cancel hr.1, h.cn] at this
    omega
  · rcases Nat.lt_or_ge (rowOf cut L.length k) L.length with hl | hl
    · have := h3 hl
      have := h.cut_le (i := rowOf cut L.length k + 1) (by omega)
      omega
    · unfold rowOf at hl ⊢; omega

theorem rowB_in {k : Nat} (hk : k ≤ C.length) (back : Bool) : rowB cut L.length k back < L.length ∧ cut (rowB cut L.length k back) ≤ k ∧ k ≤ cut (rowB cut L.length k back + 1) := by
  obtain ⟨h1, h2, h3, h4⟩ := row_in h hk
  have hr := h.rows
  have hc0 := h.c0
  unfold rowB
  split
  · rename_i hc
    rcases hc with hc | ⟨_, hc1, hc2⟩
    · have hk2 := h4.1 hc
      rw [hc]
      have := h.cut_le (i := L.length - 1) (by omega)
      rw [Nat.sub_add_cancel hr.1, h.cn]
      omega
    · have := h.cut_mono (i := rowOf cut L.length k - 1) (j := rowOf cut L.length k) (by omega) h1
      rw [Nat.sub_add_cancel hc1]
      omega
  · rename_i hc
    have hl : rowOf cut L.length k < L.length := by
      rcases Nat.lt_or_ge (rowOf cut L.length k) L.length with q | q
      · exact q
      · exact absurd (.inl (by omega)) hc
    have := h3 hl
    refine ⟨hl, ?_, by omega⟩
    rcases Nat.eq_zero_or_pos (rowOf cut L.length k) with e | e
    · rw [e, hc0]; omega
    · exact h2 e

omit h in
/-- What Spot answers. -/
def spotS (C : List C4) (tab : Int) (L : List C4) (pos : Nat → Int) (cut : Nat → Nat) (at1 : Int) (back : Bool) : Int × Int :=
  let k := cluOf pos C.length at1
  let r := rowB cut L.length k back
  ((r : Int), colS C tab (cut r) (k - cut r))

theorem spot_err {at1 : Int} (ha : ¬ (0 ≤ at1 ∧ at1 ≤ nb)) {back : Bool} : place_Map_Spot C O L K at1 back = some (((0 : Int), (0 : Int)), (2 : Int)) := by
  unfold place_Map_Spot
  by_cases h0 : at1 < 0
  · rw [if_pos (by simpa using h0)]
    rfl
  · rw [if_neg (by simpa using h0), end_eq h]
    simp only [Option.bind_some]
    rw [if_pos (by simp only [decide_eq_true_eq]; omega)]

theorem spot_eq {at1 : Int} (ha : 0 ≤ at1 ∧ at1 ≤ nb) {back : Bool} : place_Map_Spot C O L K at1 back = some (spotS C tab L pos cut at1 back, (0 : Int)) := by
  obtain ⟨c1, c2, c3, c4⟩ := clu_in h ha
  obtain ⟨r1, r2, r3, r4⟩ := row_in h c1
  obtain ⟨b1, b2, b3⟩ := rowB_in h c1 back
  have hr := h.rows
  have hkl := h.kl
  have hn := h.hn
  unfold place_Map_Spot
  rw [if_neg (by simp only [decide_eq_true_eq]; omega), end_eq h]
  simp only [Option.bind_some]
  rw [if_neg (by simp only [decide_eq_true_eq]; omega), cluster_eq h]
  simp only [Option.bind_some]
  rw [line_eq h]
  simp only [Option.bind_some]
  unfold spotS
  simp only
  generalize hk : cluOf pos C.length at1 = k at *
  have hrow : ((if (((rowOf cut L.length k : Nat) : Int) == (L.length : Int)) = true then some (true)
      else (if back = true then (if (decide (((rowOf cut L.length k : Nat) : Int) > (0 : Int))) = true then (if 0 ≤ ((rowOf cut L.length k : Nat) : Int) ∧ ((rowOf cut L.length k : Nat) : Int) < (L.length : Int) then some ((((L.getD ((rowOf cut L.length k : Nat) : Int).toNat ((0 : Int), ((0 : Int), ((0 : Int), (0 : Int))))).1) == (k : Int))) else none)
      else some (false))
      else some (false)))).bind (fun (v2 : Bool) => ((if v2 = true then some ((IntKind.i64.wrap (((rowOf cut L.length k : Nat) : Int) - (1 : Int)))) else some (((rowOf cut L.length k : Nat) : Int))))) = some ((rowB cut L.length k back : Nat) : Int) := by
    by_cases q1 : rowOf cut L.length k = L.length
    · have e : rowB cut L.length k back = L.length - 1 := by unfold rowB; rw [if_pos (.inl q1), q1]
      rw [if_pos (by simp only [beq_iff_eq]; omega), e, q1]
      simp only [Option.bind_some, if_true]
      rw [wrap_i64 (by omega) (by omega)]
      congr 1
      omega
    · have hl : rowOf cut L.length k < L.length := by omega
      rw [if_neg (by simp only [beq_iff_eq]; omega)]
      have hln := h.ln _ hl
      unfold z4 at hln
      cases back with
      | false =>
        have e : rowB cut L.length k false = rowOf cut L.length k := by unfold rowB; rw [if_neg (by rintro (q | ⟨q, _⟩); exact q1 q; cases q)]
        rw [e]
        rfl
      | true =>
        rw [if_pos rfl]
        by_cases q2 : 0 < rowOf cut L.length k
        · rw [if_pos (by simp only [decide_eq_true_eq]; omega), if_pos ⟨by omega, by omega⟩, Int.toNat_natCast, hln.1]
          simp only [Option.bind_some]
          by_cases q3 : cut (rowOf cut L.length k) = k
          · have e : rowB cut L.length k true = rowOf cut L.length k - 1 := by unfold rowB; rw [if_pos (.inr ⟨rfl, q2, q3⟩)]
            rw [if_pos (by simp only [beq_iff_eq]; omega), e, wrap_i64 (by omega) (by omega)]
            congr 1
            omega
          · have e : rowB cut L.length k true = rowOf cut L.length k := by unfold rowB; rw [if_neg (by rintro (q | ⟨_, _, q⟩); exact q1 q; exact q3 q)]
            rw [if_neg (by simp only [beq_iff_eq]; omega), e]
        · have e : rowB cut L.length k true = rowOf cut L.length k := by unfold rowB; rw [if_neg (by rintro (q | ⟨_, q, _⟩); exact q1 q; exact q2 q)]
          rw [if_neg (by simp only [decide_eq_true_eq]; omega), e]
          rfl
  rw [← Option.bind_assoc, hrow]
  simp only [Option.bind_some, Int.toNat_natCast]
  have hln := h.ln _ b1
  unfold z4 at hln
  have e1 : IntKind.i64.wrap ((k : Int) - (cut (rowB cut L.length k back) : Int)) = ((k - cut (rowB cut L.length k back) : Nat) : Int) := by rw [wrap_i64 (by omega) (by omega)]; omega
  rw [if_pos ⟨by omega, by omega⟩, if_pos ⟨by omega, by omega⟩, hln.1, e1, h.kg _ b1, colL_len, if_pos ⟨by omega, by omega⟩, Int.toNat_natCast, colL_get (by omega)]
end
end Go.Proofs.Ytdjjifeipeelhaa.T
