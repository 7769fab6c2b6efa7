/- Least: sizes; an automaton is the same as itself; what Made makes. -/
import Derived.Test.YtnnbofkcfooljaaTvLj
namespace Go.Proofs.Ytnnbofkcfooljaa.T
open Go Go.Tv Go.Proofs

/-- What Make answers is small. -/
def Small (x : List (List Int) × List Int) : Prop := x.1.length ≤ 1000 ∧ x.2.length = x.1.length ∧ ∀ l ∈ x.1, l.length ≤ 1000

theorem spec_small {nx : List (List Int)} {ot : List Int} {n c : Nat} (h : OkA nx ot n c) {kd : Nat → Int} {M : Nat} (hM : M ≤ 1000) (hk : ∀ s, s < n → 0 ≤ kd s ∧ kd s < M) {r : List (List Int) × List Int}
    (hr : iter (specB kd nx ot) (([] : List (List Int)), ([] : List Int), [0], 0) = some r) : Small r := by
  obtain ⟨r', h1, h2⟩ := iter_sim (body := specB kd nx ot) (body' := specB kd nx ot) (fun st st' => st' = st ∧ Lane kd n M st.2.2.1 ∧ st.2.2.2 ≤ st.2.2.1.length ∧ st.1.length = st.2.2.2 ∧ st.2.1.length = st.2.2.2 ∧ ∀ l ∈ st.1, l.length ≤ 1000)
    (fun r r' => r' = r ∧ Small r)
    (fun ⟨N, O, ln, i⟩ st' o ⟨e, hl, l1, l2, l3, l4⟩ hb => by
      subst e
      refine ⟨o, hb, ?_⟩
      simp only at hl l1 l2 l3 l4
      simp only [specB] at hb
      by_cases hi : i < ln.length
      · rw [if_pos hi] at hb
        obtain rfl := Option.some.inj hb
        have hs : ln.getD i 0 < n := by
          rw [List.getD_eq_getElem?_getD, List.getElem?_eq_getElem hi]
          exact hl.lt _ (List.getElem_mem hi)
        obtain ⟨l, eg⟩ := walk_grows (kd := kd) (ts := ways nx (ln.getD i 0)) (ln := ln) (r := [])
        refine ⟨rfl, Lane.walked _ _ _ hl (ways_lt h hs), ?_, by simp [l2], by simp [l3], fun l hl' => ?_⟩
        · simp only [eg, List.length_append]; omega
        · rcases List.mem_append.1 hl' with q | q
          · exact l4 l q
          · simp only [List.mem_singleton] at q
            rw [q, walk_len]
            unfold ways
            rw [List.length_map, h.row _ hs]
            have := h.cs
            simp only [List.length_nil]; omega
      · rw [if_neg hi] at hb
        obtain rfl := Option.some.inj hb
        have := hl.le hk
        refine ⟨rfl, ?_, ?_, l4⟩ <;> simp only <;> omega)
    (s := (([] : List (List Int)), ([] : List Int), [0], 0)) (s' := (([] : List (List Int)), ([] : List Int), [0], 0))
    ⟨rfl, ⟨by simp, by simp [h.pos]⟩, by simp, rfl, rfl, by simp⟩ hr
  exact h2.2

theorem make_small {nx : List (List Int)} {ot : List Int} {n c : Nat} (h : OkA nx ot n c) {x : List (List Int) × List Int} (hx : least_Make nx ot = some (x, 0)) : Small x := by
  obtain ⟨B, hB, e⟩ := make_is h
  have hd := dist_length B n
  have hs := h.small
  have hk : ∀ s, s < n → 0 ≤ kap B n s ∧ kap B n s < ((dist B n).length : Nat) := fun s hs => kap_lt hs
  rw [e, number_eq h (by omega) hk (most_kap h.pos)] at hx
  obtain ⟨r, hr, _⟩ := spec_ends h (by omega) hk
  rw [hr] at hx
  simp only [Option.bind_some, Option.some.injEq, Prod.mk.injEq] at hx
  have := spec_small h (by omega) hk hr
  rw [← hx.1]
  exact this

theorem same_ints {a : List Int} (ha : a.length ≤ 1000000) : stanzaref01_SameInts a a = some true := by
  have hi : iter (stanzaref01_SameInts_L1 a a) (0 : Int) = some (Sum.inl ()) := iter_count (body := stanzaref01_SameInts_L1 a a) (fun k => (k : Int)) a.length (fun k hk => by
    simp only [stanzaref01_SameInts_L1]
    rw [if_pos (by simp only [decide_eq_true_eq]; omega), if_pos ⟨by omega, by omega⟩, if_pos ⟨by omega, by omega⟩, if_neg (by simp), wrap_i64 (by omega) (by omega)]
    rfl) (by simp only [stanzaref01_SameInts_L1]; rw [if_neg (by simp)])
  unfold stanzaref01_SameInts
  rw [if_neg (by simp), hi]
  rfl

theorem same_auto {x : List (List Int) × List Int} (hx : Small x) : stanzaref04_SameAuto x.1 x.2 x.1 x.2 = some true := by
  obtain ⟨h1, h2, h3⟩ := hx
  have hi : iter (stanzaref04_SameAuto_L1 x.2 x.2) (0 : Int) = some (Sum.inl ()) := iter_count (body := stanzaref04_SameAuto_L1 x.2 x.2) (fun k => (k : Int)) x.2.length (fun k hk => by
    simp only [stanzaref04_SameAuto_L1]
    rw [if_pos (by simp only [decide_eq_true_eq]; omega), if_pos ⟨by omega, by omega⟩, if_pos ⟨by omega, by omega⟩, if_neg (by simp), wrap_i64 (by omega) (by omega)]
    rfl) (by simp only [stanzaref04_SameAuto_L1]; rw [if_neg (by simp)])
  have hj : iter (stanzaref04_SameAuto_L2 x.1 x.1) (0 : Int) = some (Sum.inl ()) := iter_count (body := stanzaref04_SameAuto_L2 x.1 x.1) (fun k => (k : Int)) x.1.length (fun k hk => by
    simp only [stanzaref04_SameAuto_L2, Int.toNat_natCast]
    have hl : (x.1.getD k []).length ≤ 1000 := by
      rw [List.getD_eq_getElem?_getD, List.getElem?_eq_getElem hk]
      exact h3 _ (List.getElem_mem hk)
    rw [if_pos (by simp only [decide_eq_true_eq]; omega), if_pos ⟨by omega, by omega⟩, if_pos ⟨by omega, by omega⟩, same_ints (by omega)]
    simp only [Option.bind_some, Bool.not_true, Bool.false_eq_true, if_false]
    rw [wrap_i64 (by omega) (by omega)]
    rfl) (by simp only [stanzaref04_SameAuto_L2]; rw [if_neg (by simp)])
  unfold stanzaref04_SameAuto
  rw [if_neg (by simp)]
  simp only [Option.bind_some]
  rw [if_neg (by simp), hi]
  simp only [Option.bind_some]
  rw [hj]
  rfl
end Go.Proofs.Ytnnbofkcfooljaa.T
