/- Least: number is its spec; what the spec hangs on. -/
import Derived.Test.YtnnbofkcfooljaaTvLh
namespace Go.Proofs.Ytnnbofkcfooljaa.T
open Go Go.Tv Go.Proofs

section
variable {nx : List (List Int)} {ot : List Int} {n c : Nat} (h : OkA nx ot n c) {kd : Nat → Int} {M : Nat} (hM : M ≤ 1000) (hk : ∀ s, s < n → 0 ≤ kd s ∧ kd s < M)
include h hM hk

/-- The spec ends. -/
theorem spec_ends : ∃ r, iter (specB kd nx ot) (([] : List (List Int)), ([] : List Int), [0], 0) = some r ∧ True := by
  refine iter_rule (body := specB kd nx ot) (fun st => Lane kd n M st.2.2.1) (fun st => (M - st.2.2.1.length) * (M + 1) + (st.2.2.1.length - st.2.2.2)) (fun _ => True) ?_ (s := (([] : List (List Int)), ([] : List Int), [0], 0)) ⟨by simp, by simp [h.pos]⟩
  rintro ⟨N, O, ln, i⟩ hl
  simp only at hl
  simp only [specB]
  by_cases hi : i < ln.length
  · left
    rw [if_pos hi]
    have hs : ln.getD i 0 < n := by
      rw [List.getD_eq_getElem?_getD, List.getElem?_eq_getElem hi]
      exact hl.lt _ (List.getElem_mem hi)
    have h2 := Lane.walked (ways nx (ln.getD i 0)) ln [] hl (ways_lt h hs)
    refine ⟨_, rfl, h2, ?_⟩
    obtain ⟨l, e⟩ := walk_grows (kd := kd) (ts := ways nx (ln.getD i 0)) (ln := ln) (r := [])
    have h3 := h2.le hk
    rw [e] at h3
    simp only [e, List.length_append] at h3 ⊢
    have h4 : (M - (ln.length + l.length)) * (M + 1) + l.length * (M + 1) = (M - ln.length) * (M + 1) := by rw [← Nat.add_mul]; congr 1; omega
    have h5 : l.length ≤ l.length * (M + 1) := Nat.le_mul_of_pos_right _ (by omega)
    omega
  · right
    rw [if_neg hi]
    exact ⟨_, rfl, trivial⟩

theorem number_eq (hmost : ((List.range n).map kd).foldl max 0 = (M : Int) - 1) : least_number nx ot ((List.range n).map kd) = iter (specB kd nx ot) (([] : List (List Int)), ([] : List Int), [0], 0) := by
  obtain ⟨r, hr, _⟩ := spec_ends h hM hk
  rw [hr]
  have hsm := h.small
  have hn := h.hn
  have ho := h.ho
  have hp := h.pos
  have hk0 := hk 0 hp
  have hpl : ∀ l, (placeOf kd M l).length = M := fun l => by simp [placeOf]
  obtain ⟨r', h1, h2⟩ := iter_sim (body := specB kd nx ot) (body' := least_number_L3 nx ot ((List.range n).map kd))
    (fun st st' => st'.1 = st.1 ∧ st'.2.1 = st.2.1 ∧ st'.2.2.1 = placeOf kd M st.2.2.1 ∧ st'.2.2.2.1 = ints st.2.2.1 ∧ st'.2.2.2.2 = (st.2.2.2 : Int) ∧ Lane kd n M st.2.2.1 ∧ st.1.length = st.2.2.2 ∧ st.2.1.length = st.2.2.2 ∧ st.2.2.2 ≤ st.2.2.1.length)
    (fun r r' => r' = r)
    (fun ⟨N, O, ln, i⟩ ⟨N', O', pl, line, i'⟩ o ⟨e1, e2, e3, e4, e5, hl, l1, l2, l3⟩ hb => by
      simp only at e1 e2 e3 e4 e5 hl l1 l2 l3
      subst e1 e2 e3 e4 e5
      have hle := hl.le hk
      simp only [specB] at hb
      by_cases hi : i < ln.length
      · rw [if_pos hi] at hb
        obtain rfl := Option.some.inj hb
        have hs : ln.getD i 0 < n := by
          rw [List.getD_eq_getElem?_getD, List.getElem?_eq_getElem hi]
          exact hl.lt _ (List.getElem_mem hi)
        have h2 := Lane.walked (ways nx (ln.getD i 0)) ln [] hl (ways_lt h hs)
        obtain ⟨l, eg⟩ := walk_grows (kd := kd) (ts := ways nx (ln.getD i 0)) (ln := ln) (r := [])
        have hlg : i < (walk kd ln (ways nx (ln.getD i 0)) []).1.length := by rw [eg, List.length_append]; omega
        have hgg : (walk kd ln (ways nx (ln.getD i 0)) []).1.getD i 0 = ln.getD i 0 := by
          rw [eg, List.getD_eq_getElem?_getD, List.getD_eq_getElem?_getD, List.getElem?_append_left hi]
        have g1 := ints_get hi
        have g2 := ints_get hlg
        rw [hgg] at g2
        refine ⟨.inl (N' ++ [(walk kd ln (ways nx (ln.getD i 0)) []).2], O' ++ [ot.getD (ln.getD i 0) 0], placeOf kd M (walk kd ln (ways nx (ln.getD i 0)) []).1, ints (walk kd ln (ways nx (ln.getD i 0)) []).1, ((i + 1 : Nat) : Int)), ?_, rfl, rfl, rfl, rfl, rfl, h2, by simp [l1], by simp [l2], hlg⟩
        simp only [least_number_L3]
        rw [if_pos (by simp only [ints_len, decide_eq_true_eq]; omega), if_pos ⟨by omega, by rw [ints_len]; omega⟩, if_pos (by rw [ints_len]; omega)]
        simp only [Int.toNat_natCast]
        rw [g1, if_pos ⟨by omega, by omega⟩, number_L2 h hM hk hl hi]
        simp only [Option.bind_some]
        rw [if_pos ⟨by simp only [List.length_cons, List.length_nil]; omega, by simp only [List.length_cons, List.length_nil]; omega⟩, if_pos ⟨by omega, by rw [ints_len]; omega⟩, if_pos (by rw [ints_len]; omega), g2, if_pos ⟨by omega, by omega⟩]
        rw [if_pos ⟨by simp only [List.length_cons, List.length_nil]; omega, by simp only [List.length_cons, List.length_nil]; omega⟩, wrap_i64 (by omega) (by omega)]
        simp only [Int.toNat_natCast]
        rfl
      · rw [if_neg hi] at hb
        obtain rfl := Option.some.inj hb
        refine ⟨.inr (N', O'), ?_, rfl⟩
        simp only [least_number_L3]
        rw [if_neg (by simp only [ints_len, decide_eq_true_eq]; omega)])
    (s := (([] : List (List Int)), ([] : List Int), [0], 0)) (s' := (([] : List (List Int)), ([] : List Int), placeOf kd M [0], [(0 : Int)], (0 : Int)))
    ⟨rfl, rfl, rfl, rfl, rfl, ⟨by simp, by simp [hp]⟩, rfl, rfl, by simp⟩ hr
  have hfill : iter (least_number_L1 ((M : Int) - 1)) (List.replicate M (0 : Int), (0 : Int)) = some (List.replicate M (-1 : Int)) := by
    have hwM : IntKind.i64.wrap ((M : Int) - 1 + 1) = (M : Int) := by rw [wrap_i64 (by omega) (by omega)]; omega
    have := iter_count (body := least_number_L1 ((M : Int) - 1)) (fun k => (List.replicate k (-1 : Int) ++ List.replicate (M - k) (0 : Int), (k : Int))) M (r := List.replicate M (-1 : Int)) (fun k hkM => by
      simp only [least_number_L1, hwM, Int.toNat_natCast, List.length_replicate]
      rw [if_pos (by simp only [decide_eq_true_eq]; omega), if_pos ⟨by omega, by simp only [List.length_append, List.length_replicate]; omega⟩, if_pos (by simp only [List.length_append, List.length_replicate]; omega), wrap_i64 (by omega) (by omega)]
      have e : (List.replicate k (-1 : Int) ++ List.replicate (M - k) (0 : Int)).set k (-1 : Int) = List.replicate (k + 1) (-1 : Int) ++ List.replicate (M - (k + 1)) (0 : Int) := by
        rw [List.set_append_right _ _ (by simp), List.length_replicate, Nat.sub_self, show M - k = (M - (k + 1)) + 1 by omega, List.replicate_succ, List.set_cons_zero, List.replicate_succ', List.append_assoc]
        rfl
      rw [e]
      rfl) (by
        simp only [least_number_L1, hwM, Int.toNat_natCast, List.length_replicate]
        rw [if_neg (by simp)]
        simp)
    simpa using this
  unfold least_number
  rw [most_eq _ (by simp; omega), hmost]
  simp only [Option.bind_some]
  have hwM : IntKind.i64.wrap ((M : Int) - 1 + 1) = (M : Int) := by rw [wrap_i64 (by omega) (by omega)]; omega
  have hMp : 0 < M := by omega
  have ek0 : ((List.range n).map kd).getD ((0 : Int).toNat) 0 = kd 0 := range_get hp
  have hset : (List.replicate M (-1 : Int)).set (kd 0).toNat (0 : Int) = placeOf kd M [0] := by
    have e := placeOf_add (kd := kd) (M := M) (ln := []) (t := 0) hk0.1 hk0.2 (by simp)
    have e2 : placeOf kd M [] = List.replicate M (-1 : Int) := by
      unfold placeOf
      refine List.ext_getElem? fun k => ?_
      rw [List.getElem?_map, List.getElem?_replicate]
      rcases Nat.lt_or_ge k M with hkm | hkm
      · rw [List.getElem?_range hkm, if_pos hkm]; simp
      · rw [List.getElem?_eq_none (by simp; omega), if_neg (by omega)]; rfl
    rw [e2] at e
    exact e
  rw [hwM, if_pos ⟨by omega, by omega, by omega, by omega⟩, Int.toNat_natCast, hfill]
  simp only [Option.bind_some]
  rw [ek0, if_pos ⟨by omega, by simp; omega⟩, if_pos ⟨by omega, by simp only [List.length_replicate]; omega⟩, if_pos (by simp only [List.length_replicate]; omega), hset, h1, h2]
  rfl
end
end Go.Proofs.Ytnnbofkcfooljaa.T
