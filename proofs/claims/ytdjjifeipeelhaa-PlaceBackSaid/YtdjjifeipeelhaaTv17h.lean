/- Place: where boundaries are. -/
import Derived.Test.YtdjjifeipeelhaaTv17g
namespace Go.Proofs.Ytdjjifeipeelhaa.T
open Go Go.Tv Go.Proofs

section
variable {C : List C4} {O : List Int} {m : List C4} {nb tab : Int} {L : List C4} {K : List (List Int)} {pos : Nat → Int} {cut : Nat → Nat} (h : Pl C O m nb tab L K pos cut)
include h

theorem clu_of {at1 : Int} {k : Nat} (hk : k ≤ C.length) (h1 : pos k ≤ at1) (h2 : k < C.length → at1 < pos (k + 1)) : cluOf pos C.length at1 = k :=
  firstN_uniq hk (fun j hj => by
    have := h.pos_mono (i := j + 1) (j := k) (by omega)
    simp only [decide_eq_false_iff_not]
    omega) (fun hl => by simpa using h2 hl)
theorem clu_pos {k : Nat} (hk : k ≤ C.length) : cluOf pos C.length (pos k) = k :=
  clu_of h hk (Int.le_refl _) (fun _ => by have := h.pr k; omega)
theorem pos_at {k : Nat} (hk : k ≤ C.length) : 0 ≤ pos k ∧ pos k ≤ nb := by
  have h1 := h.pos_in k
  have h2 := h.pos_mono hk
  rw [h.nb]
  omega

/-- A boundary within a row. -/
theorem rowOf_in {k r : Nat} (hr : r < L.length) (h1 : cut r ≤ k) (h2 : k < cut (r + 1)) : rowOf cut L.length k = r :=
  firstN_uniq (by omega) (fun j hj => by
    have := h.cut_mono (i := j + 1) (j := r) (by omega) (by omega)
    simp only [decide_eq_false_iff_not]
    omega) (fun _ => by simpa using h2)
theorem rowB_in' {k r : Nat} (hr : r < L.length) (h1 : cut r ≤ k) (h2 : k < cut (r + 1)) : rowB cut L.length k false = r := by
  unfold rowB
  rw [rowOf_in h hr h1 h2, if_neg (by rintro (q | ⟨q, _⟩); omega; cases q)]
/-- A row's end. -/
theorem rowB_end {r : Nat} (hr : r < L.length) : rowB cut L.length (cut (r + 1)) (decide (r + 1 < L.length)) = r := by
  by_cases q : r + 1 < L.length
  · have hn : 0 < C.length := by
      rcases Nat.eq_zero_or_pos C.length with e | e
      · have := (h.m0 e).2
        rw [this] at q
        simp at q
      · exact e
    have e := rowOf_in h q (Nat.le_refl _) (h.cr hn _ q)
    unfold rowB
    rw [e, if_pos (.inr ⟨by simpa using q, by omega, rfl⟩)]
    omega
  · have e : r + 1 = L.length := by omega
    have e2 := (row_in h (k := cut (r + 1)) (h.cut_le (by omega))).2.2.2.2 (by rw [e]; exact h.cn)
    unfold rowB
    rw [if_pos (.inl e2), e2]
    omega
theorem rowB_next {r : Nat} (hr : r + 1 < L.length) : rowB cut L.length (cut (r + 1)) false = r + 1 := by
  have hn : 0 < C.length := by
    rcases Nat.eq_zero_or_pos C.length with e | e
    · have := (h.m0 e).2
      rw [this] at hr
      simp at hr
    · exact e
  exact rowB_in' h hr (Nat.le_refl _) (h.cr hn _ hr)

theorem spot_at {k : Nat} (hk : k ≤ C.length) (back : Bool) : spotS C tab L pos cut (pos k) back = (((rowB cut L.length k back : Nat) : Int), colS C tab (cut (rowB cut L.length k back)) (k - cut (rowB cut L.length k back))) := by
  unfold spotS
  rw [clu_pos h hk]

/-- The boundary where a line ends, in bytes. -/
theorem line_end {i : Nat} (hi : i < m.length) : m = L ∧ 0 < C.length ∧ cut (i + 1) ≤ C.length ∧ ((if decide ((m.getD i z4).2.1 < (C.length : Int)) = true then (if 0 ≤ (m.getD i z4).2.1 ∧ (m.getD i z4).2.1 < (C.length : Int) then some ((C.getD ((m.getD i z4).2.1.toNat) z4).1) else none) else some nb) = some (pos (cut (i + 1)))) := by
  have hn : 0 < C.length := by
    rcases Nat.eq_zero_or_pos C.length with e | e
    · rw [(h.m0 e).1] at hi
      simp at hi
    · exact e
  have hm := h.m1 hn
  subst hm
  have hl := h.ln i hi
  have hc := h.cut_le (i := i + 1) (by omega)
  refine ⟨rfl, hn, hc, ?_⟩
  rw [hl.2]
  by_cases q : cut (i + 1) < C.length
  · rw [if_pos (by simp only [decide_eq_true_eq]; omega), if_pos ⟨by omega, by omega⟩, Int.toNat_natCast, (h.cl _ q).1]
  · rw [if_neg (by simp only [decide_eq_true_eq]; omega), h.nb, show cut (i + 1) = C.length by omega]
end
end Go.Proofs.Ytdjjifeipeelhaa.T
