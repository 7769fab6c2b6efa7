/- Least: what Make makes: an automaton that goes side by side with the given one. -/
import Derived.Test.YtnnbofkcfooljaaTvLo
import Derived.Test.YtnnbofkcfooljaaTvYa
namespace Go.Proofs.Ytnnbofkcfooljaa.T
open Go Go.Tv Go.Proofs

theorem add1_mem {kd : Nat → Int} {ln : List Nat} {t : Nat} : kd t ∈ (add1 kd ln t).map kd := by
  unfold add1
  split
  · assumption
  · simp
theorem add1_idx {kd : Nat → Int} {ln : List Nat} {t : Nat} : ((add1 kd ln t).map kd).idxOf (kd t) = (ln.map kd).idxOf (kd t) := by
  unfold add1
  split
  · rfl
  · rename_i h
    rw [List.map_append]
    simp only [List.map_cons, List.map_nil]
    rw [idx_notI h, List.idxOf_eq_length h]

theorem walk_row {kd : Nat → Int} : ∀ (ts ln : List Nat) (r : List Int),
    (walk kd ln ts r).2 = r ++ ts.map (fun t => (((walk kd ln ts r).1.map kd).idxOf (kd t) : Int)) ∧ ∀ t ∈ ts, kd t ∈ (walk kd ln ts r).1.map kd
  | [], ln, r => by simp [walk]
  | t :: ts, ln, r => by
    obtain ⟨i1, i2⟩ := walk_row (kd := kd) ts (add1 kd ln t) (r ++ [((ln.map kd).idxOf (kd t) : Int)])
    obtain ⟨l, eg⟩ := walk_grows (kd := kd) (ts := ts) (ln := add1 kd ln t) (r := r ++ [((ln.map kd).idxOf (kd t) : Int)])
    have hm : kd t ∈ (walk kd (add1 kd ln t) ts (r ++ [((ln.map kd).idxOf (kd t) : Int)])).1.map kd := by
      rw [eg, List.map_append]
      exact List.mem_append_left _ add1_mem
    have he : ((walk kd (add1 kd ln t) ts (r ++ [((ln.map kd).idxOf (kd t) : Int)])).1.map kd).idxOf (kd t) = (ln.map kd).idxOf (kd t) := by
      rw [eg, List.map_append, idx_memI add1_mem, add1_idx]
    simp only [walk]
    refine ⟨?_, fun x hx => ?_⟩
    · rw [List.map_cons, he]
      rw [i1, List.append_assoc]
      rfl
    · rcases List.mem_cons.1 hx with rfl | hx
      · exact hm
      · exact i2 x hx

def rowOf (kd : Nat → Int) (nx : List (List Int)) (ln : List Nat) (s : Nat) : List Int := (ways nx s).map fun t => ((ln.map kd).idxOf (kd t) : Int)

/-- What the spec answers. -/
structure Made (nx : List (List Int)) (ot : List Int) (n M : Nat) (kd : Nat → Int) (ln : List Nat) (r : List (List Int) × List Int) : Prop where
  lane : Lane kd n M ln
  pos : 0 < ln.length
  zero : ln.getD 0 0 = 0
  rows : r.1 = ln.map (rowOf kd nx ln)
  outs : r.2 = ln.map fun s => ot.getD s 0
  clos : ∀ s ∈ ln, ∀ t ∈ ways nx s, kd t ∈ ln.map kd

section
variable {nx : List (List Int)} {ot : List Int} {n c : Nat} (h : OkA nx ot n c) {kd : Nat → Int} {M : Nat}
include h

theorem spec_made {r : List (List Int) × List Int} (hr : iter (specB kd nx ot) (([] : List (List Int)), ([] : List Int), [0], 0) = some r) : ∃ ln, Made nx ot n M kd ln r := by
  refine iter_inv (body := specB kd nx ot) (fun st => Lane kd n M st.2.2.1 ∧ st.2.2.2 ≤ st.2.2.1.length ∧ 0 < st.2.2.1.length ∧ st.2.2.1.getD 0 0 = 0 ∧ st.1 = (st.2.2.1.take st.2.2.2).map (rowOf kd nx st.2.2.1) ∧
      st.2.1 = (st.2.2.1.take st.2.2.2).map (fun s => ot.getD s 0) ∧ ∀ s ∈ st.2.2.1.take st.2.2.2, ∀ t ∈ ways nx s, kd t ∈ st.2.2.1.map kd)
    (fun r => ∃ ln, Made nx ot n M kd ln r) ?_ ?_ ?_ hr
  · rintro ⟨N, O, ln, i⟩ y ⟨hl, hi0, hp, hz, hN, hO, hc⟩ hb
    simp only at hl hi0 hp hz hN hO hc
    simp only [specB] at hb
    by_cases hi : i < ln.length
    · rw [if_pos hi] at hb
      obtain rfl := Sum.inl.inj (Option.some.inj hb)
      have hs : ln.getD i 0 < n := by
        rw [List.getD_eq_getElem?_getD, List.getElem?_eq_getElem hi]
        exact hl.lt _ (List.getElem_mem hi)
      obtain ⟨l, eg⟩ := walk_grows (kd := kd) (ts := ways nx (ln.getD i 0)) (ln := ln) (r := [])
      obtain ⟨w1, w2⟩ := walk_row (kd := kd) (ways nx (ln.getD i 0)) ln []
      have hL := Lane.walked (ways nx (ln.getD i 0)) ln [] hl (ways_lt h hs)
      have htk : (ln ++ l).take (i + 1) = ln.take i ++ [ln.getD i 0] := by
        rw [List.take_append_of_le_length (by omega), List.take_add_one, List.getElem?_eq_getElem hi, List.getD_eq_getElem?_getD, List.getElem?_eq_getElem hi]
        rfl
      simp only [eg] at hL w1 w2 ⊢
      have hidx : ∀ s ∈ ln.take i, rowOf kd nx ln s = rowOf kd nx (ln ++ l) s := fun s hs' => by
        unfold rowOf
        refine List.map_congr_left fun t ht => ?_
        rw [List.map_append, idx_memI (hc s hs' t ht)]
      refine ⟨hL, by simp only [List.length_append]; omega, by simp only [List.length_append]; omega, ?_, ?_, ?_, ?_⟩
      · rw [List.getD_eq_getElem?_getD, List.getElem?_append_left hp, ← List.getD_eq_getElem?_getD]; exact hz
      · rw [htk, List.map_append, hN, List.map_congr_left hidx]
        congr 1
        simp only [List.map_cons, List.map_nil, List.cons.injEq, and_true]
        rw [w1]
        rfl
      · rw [htk, List.map_append, hO]; rfl
      · rw [htk]
        intro s hs' t ht
        rcases List.mem_append.1 hs' with q | q
        · rw [List.map_append]; exact List.mem_append_left _ (hc s q t ht)
        · simp only [List.mem_singleton] at q
          subst q
          exact w2 t ht
    · rw [if_neg hi] at hb; cases hb
  · rintro ⟨N, O, ln, i⟩ r ⟨hl, hi0, hp, hz, hN, hO, hc⟩ hb
    simp only at hl hi0 hp hz hN hO hc
    simp only [specB] at hb
    by_cases hi : i < ln.length
    · rw [if_pos hi] at hb; cases hb
    · rw [if_neg hi] at hb
      obtain rfl := Sum.inr.inj (Option.some.inj hb)
      rw [List.take_of_length_le (by omega)] at hN hO hc
      exact ⟨ln, hl, hp, hz, hN, hO, hc⟩
  · exact ⟨⟨by simp, by simp [h.pos]⟩, by simp, by simp, by simp, by simp, by simp, by simp⟩

/-- What Make makes is an automaton, no greater, that goes side by side with the given one. -/
theorem make_made : ∃ (x : List (List Int) × List Int) (m : Nat) (R : Nat → Nat → Prop), least_Make nx ot = some (x, 0) ∧ OkA x.1 x.2 m c ∧ m ≤ n ∧ R 0 0 ∧ (∀ s t, R s t → s < n ∧ t < m) ∧
    (∀ s t, R s t → ∀ k, k < c → R (dl nx s k) (dl x.1 t k)) ∧ (∀ s t, R s t → ot.getD s 0 = x.2.getD t 0) := by
  obtain ⟨B, hB, e⟩ := make_is h
  have hd := dist_length B n
  have hs := h.small
  have hk : ∀ s, s < n → 0 ≤ kap B n s ∧ kap B n s < ((dist B n).length : Nat) := fun s hs => kap_lt hs
  obtain ⟨r, hr, _⟩ := spec_ends h (by omega) hk
  obtain ⟨ln, hm⟩ := spec_made (M := (dist B n).length) h hr
  have hl := hm.lane.le hk
  have hln : ∀ t, t < ln.length → ln.getD t 0 < n := fun t ht => by
    rw [List.getD_eq_getElem?_getD, List.getElem?_eq_getElem ht]
    exact hm.lane.lt _ (List.getElem_mem ht)
  have hlm : ∀ t, t < ln.length → ln.getD t 0 ∈ ln := fun t ht => by
    rw [List.getD_eq_getElem?_getD, List.getElem?_eq_getElem ht]
    exact List.getElem_mem ht
  have hwl : ∀ s, s < n → (ways nx s).length = c := fun s hs => by unfold ways; rw [List.length_map, h.row s hs]
  have hrow : ∀ t, t < ln.length → r.1.getD t [] = rowOf (kap B n) nx ln (ln.getD t 0) := fun t ht => by
    rw [hm.rows, List.getD_eq_getElem?_getD, List.getElem?_map, List.getD_eq_getElem?_getD, List.getElem?_eq_getElem ht]
    rfl
  have hway : ∀ t k, t < ln.length → k < c → (r.1.getD t []).getD k 0 = ((ln.map (kap B n)).idxOf (kap B n (dl nx (ln.getD t 0) k)) : Int) ∧ kap B n (dl nx (ln.getD t 0) k) ∈ ln.map (kap B n) := fun t k ht hkc => by
    have hsn := hln t ht
    have hg : (ways nx (ln.getD t 0))[k]? = some (dl nx (ln.getD t 0) k) := by
      unfold ways dl
      have hkl2 : k < (nx.getD (ln.getD t 0) []).length := by rw [h.row _ hsn]; exact hkc
      generalize nx.getD (ln.getD t 0) [] = l at hkl2
      rw [List.getElem?_map, List.getD_eq_getElem?_getD, List.getElem?_eq_getElem hkl2]; rfl
    rw [hrow t ht]
    unfold rowOf
    refine ⟨?_, hm.clos _ (hlm t ht) _ (List.mem_of_getElem? hg)⟩
    rw [List.getD_eq_getElem?_getD, List.getElem?_map, hg]; rfl
  have hidx : ∀ v, v ∈ ln.map (kap B n) → (ln.map (kap B n)).idxOf v < ln.length := fun v hv => by
    have := List.idxOf_lt_length_of_mem hv
    simpa using this
  have hat : ∀ v, v ∈ ln.map (kap B n) → kap B n (ln.getD ((ln.map (kap B n)).idxOf v) 0) = v := fun v hv => by
    have h1 := List.idxOf_lt_length_of_mem hv
    have h2 := List.getElem_idxOf h1
    rw [List.getElem_map] at h2
    have h3 := hidx v hv
    rw [List.getD_eq_getElem?_getD, List.getElem?_eq_getElem h3]
    exact h2
  refine ⟨r, ln.length, fun s t => s < n ∧ t < ln.length ∧ Leq nx ot c s (ln.getD t 0), ?_, ?_, by omega, ?_, fun s t q => ⟨q.1, q.2.1⟩, ?_, ?_⟩
  · rw [e, number_eq h (by omega) hk (most_kap h.pos), hr]; rfl
  · refine ⟨by rw [hm.rows]; simp, by rw [hm.outs]; simp, hm.pos, by omega, h.cs, fun t ht => ?_, fun t k ht hkc => ?_, fun t ht => ?_⟩
    · rw [hrow t ht]; unfold rowOf; rw [List.length_map, hwl _ (hln t ht)]
    · obtain ⟨w1, w2⟩ := hway t k ht hkc
      rw [w1]
      have := hidx _ w2
      omega
    · rw [hm.outs, List.getD_eq_getElem?_getD, List.getElem?_map, List.getElem?_eq_getElem ht]
      have := h.out _ (hln t ht)
      rw [show ln.getD t 0 = ln[t] by rw [List.getD_eq_getElem?_getD, List.getElem?_eq_getElem ht]; rfl] at this
      exact this
  · exact ⟨h.pos, hm.pos, by rw [hm.zero]; exact fun _ _ => rfl⟩
  · rintro s t ⟨q1, q2, q3⟩ k hkc
    obtain ⟨w1, w2⟩ := hway t k q2 hkc
    have e1 : dl r.1 t k = (ln.map (kap B n)).idxOf (kap B n (dl nx (ln.getD t 0) k)) := by
      have : dl r.1 t k = ((r.1.getD t []).getD k 0).toNat := rfl
      rw [this, w1]; simp
    have hlt := hidx _ w2
    refine ⟨h.dl_lt q1 hkc, by rw [e1]; exact hlt, ?_⟩
    have h1 := leq_step hkc q3
    have h2 := hat _ w2
    rw [← e1] at h2 hlt
    have h3 := (hB _ _ (hln _ hlt) (h.dl_lt (hln t q2) hkc)).1 ((kap_eq (hln _ hlt) (h.dl_lt (hln t q2) hkc)).1 h2)
    intro w hw
    rw [h1 w hw, h3 w hw]
  · rintro s t ⟨q1, q2, q3⟩
    have := q3 [] (by simp)
    simp only [run, List.foldl_nil] at this
    rw [this, hm.outs, List.getD_eq_getElem?_getD (l := ln.map _), List.getElem?_map, List.getElem?_eq_getElem q2]
    rw [List.getD_eq_getElem?_getD (l := ln), List.getElem?_eq_getElem q2]
    rfl
end
end Go.Proofs.Ytnnbofkcfooljaa.T
