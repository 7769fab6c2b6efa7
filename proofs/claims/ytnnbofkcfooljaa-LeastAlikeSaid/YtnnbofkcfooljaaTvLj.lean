/- Least: two automata that go side by side have one least automaton. -/
import Derived.Test.YtnnbofkcfooljaaTvLi
namespace Go.Proofs.Ytnnbofkcfooljaa.T
open Go Go.Tv Go.Proofs

inductive All2 (R : Nat → Nat → Prop) : List Nat → List Nat → Prop where
  | nil : All2 R [] []
  | cons {a b : Nat} {l m : List Nat} : R a b → All2 R l m → All2 R (a :: l) (b :: m)

section
variable {R : Nat → Nat → Prop}
theorem All2.length : ∀ {l m : List Nat}, All2 R l m → l.length = m.length
  | _, _, .nil => rfl
  | _, _, .cons _ h => by simp [h.length]
theorem All2.get : ∀ {l m : List Nat}, All2 R l m → ∀ {i : Nat}, i < l.length → R (l.getD i 0) (m.getD i 0)
  | _, _, .cons h _, 0, _ => h
  | _, _, .cons _ h, i + 1, hi => by simpa using h.get (i := i) (by simpa using hi)
theorem All2.snoc {a b : Nat} (hab : R a b) : ∀ {l m : List Nat}, All2 R l m → All2 R (l ++ [a]) (m ++ [b])
  | _, _, .nil => .cons hab .nil
  | _, _, .cons h r => .cons h (r.snoc hab)
theorem All2.of_get : ∀ {l m : List Nat}, l.length = m.length → (∀ i, i < l.length → R (l.getD i 0) (m.getD i 0)) → All2 R l m
  | [], [], _, _ => .nil
  | [], _ :: _, h, _ => by simp at h
  | _ :: _, [], h, _ => by simp at h
  | a :: l, b :: m, h, g => .cons (g 0 (by simp)) (All2.of_get (by simpa using h) fun i hi => by simpa using g (i + 1) (by simpa using hi))

variable {kd kd' : Nat → Int} (Rk : ∀ s t s' t', R s t → R s' t' → (kd s = kd s' ↔ kd' t = kd' t'))
include Rk

theorem side_mem {t t' : Nat} (ht : R t t') : ∀ {l m : List Nat}, All2 R l m → (kd t ∈ l.map kd ↔ kd' t' ∈ m.map kd') ∧ (l.map kd).idxOf (kd t) = (m.map kd').idxOf (kd' t')
  | _, _, .nil => by simp
  | _, _, .cons (a := a) (b := b) h r => by
    obtain ⟨i1, i2⟩ := side_mem ht r
    have e := Rk t t' a b ht h
    have e' := Rk a b t t' h ht
    simp only [List.map_cons, List.mem_cons, List.idxOf_cons, i2, e, i1]
    refine ⟨trivial, ?_⟩
    by_cases q : kd a = kd t
    · have q' := e'.1 q
      simp [q, q']
    · have q' : ¬ kd' b = kd' t' := fun h => q (e'.2 h)
      have b1 : (kd a == kd t) = false := by simpa using q
      have b2 : (kd' b == kd' t') = false := by simpa using q'
      rw [b1, b2]

theorem side_walk : ∀ {ts ts' : List Nat}, All2 R ts ts' → ∀ {ln ln' : List Nat} (r : List Int), All2 R ln ln' → All2 R (walk kd ln ts r).1 (walk kd' ln' ts' r).1 ∧ (walk kd ln ts r).2 = (walk kd' ln' ts' r).2
  | _, _, .nil, _, _, r, hl => ⟨hl, rfl⟩
  | _, _, .cons (a := a) (b := b) h q, ln, ln', r, hl => by
    obtain ⟨i1, i2⟩ := side_mem Rk h hl
    simp only [walk, i2]
    refine side_walk q _ ?_
    unfold add1
    by_cases hm : kd a ∈ ln.map kd
    · rw [if_pos hm, if_pos (i1.1 hm)]; exact hl
    · rw [if_neg hm, if_neg (fun h => hm (i1.2 h))]; exact hl.snoc h

theorem spec_sim {nx nx' : List (List Int)} {ot ot' : List Int} (R0 : R 0 0) (Rw : ∀ s t, R s t → All2 R (ways nx s) (ways nx' t)) (Ro : ∀ s t, R s t → ot.getD s 0 = ot'.getD t 0) {r : List (List Int) × List Int}
    (hr : iter (specB kd nx ot) (([] : List (List Int)), ([] : List Int), [0], 0) = some r) : iter (specB kd' nx' ot') (([] : List (List Int)), ([] : List Int), [0], 0) = some r := by
  obtain ⟨r', h1, h2⟩ := iter_sim (body := specB kd nx ot) (body' := specB kd' nx' ot') (fun st st' => st'.1 = st.1 ∧ st'.2.1 = st.2.1 ∧ All2 R st.2.2.1 st'.2.2.1 ∧ st'.2.2.2 = st.2.2.2) (fun r r' => r' = r)
    (fun ⟨N, O, ln, i⟩ ⟨N', O', ln', i'⟩ o ⟨e1, e2, e3, e4⟩ hb => by
      simp only at e1 e2 e3 e4
      subst e1 e2 e4
      have hlen := e3.length
      simp only [specB] at hb ⊢
      by_cases hi : i' < ln.length
      · rw [if_pos hi] at hb
        obtain rfl := Option.some.inj hb
        have hR := e3.get hi
        obtain ⟨w1, w2⟩ := side_walk Rk (Rw _ _ hR) [] e3
        refine ⟨.inl (N' ++ [(walk kd' ln' (ways nx' (ln'.getD i' 0)) []).2], O' ++ [ot'.getD (ln'.getD i' 0) 0], (walk kd' ln' (ways nx' (ln'.getD i' 0)) []).1, i' + 1), by rw [if_pos (by omega)], ?_⟩
        exact ⟨by rw [w2], by rw [Ro _ _ hR], w1, rfl⟩
      · rw [if_neg hi] at hb
        obtain rfl := Option.some.inj hb
        exact ⟨.inr (N', O'), by rw [if_neg (by omega)], rfl⟩) ⟨rfl, rfl, .cons R0 .nil, rfl⟩ hr
  rw [h1, h2]
end

/-- Make of two automata that go side by side. -/
theorem make_sim {R : Nat → Nat → Prop} {nx nx' : List (List Int)} {ot ot' : List Int} {n n' c : Nat} (h : OkA nx ot n c) (h' : OkA nx' ot' n' c) (R0 : R 0 0) (Rl : ∀ s t, R s t → s < n ∧ t < n')
    (Rw : ∀ s t, R s t → ∀ k, k < c → R (dl nx s k) (dl nx' t k)) (Ro : ∀ s t, R s t → ot.getD s 0 = ot'.getD t 0) :
    ∃ x, least_Make nx ot = some (x, 0) ∧ least_Make nx' ot' = some (x, 0) := by
  obtain ⟨B, hB, e⟩ := make_is h
  obtain ⟨B', hB', e'⟩ := make_is h'
  have hd := dist_length B n
  have hd' := dist_length B' n'
  have hs := h.small
  have hs' := h'.small
  have hk : ∀ s, s < n → 0 ≤ kap B n s ∧ kap B n s < ((dist B n).length : Nat) := fun s hs => kap_lt hs
  have hk' : ∀ s, s < n' → 0 ≤ kap B' n' s ∧ kap B' n' s < ((dist B' n').length : Nat) := fun s hs => kap_lt hs
  have q := number_eq h (by omega) hk (most_kap h.pos)
  have q' := number_eq h' (by omega) hk' (most_kap h'.pos)
  obtain ⟨r, hr, _⟩ := spec_ends h (by omega) hk
  have run : ∀ w s t, R s t → (∀ k ∈ w, k < c) → R (run nx s w) (T.run nx' t w) := fun w => by
    induction w with
    | nil => intro s t hR _; exact hR
    | cons k w ih => intro s t hR hw; exact ih _ _ (Rw s t hR k (hw k (by simp))) (fun j hj => hw j (by simp [hj]))
  have Rk : ∀ s t s' t', R s t → R s' t' → (kap B n s = kap B n s' ↔ kap B' n' t = kap B' n' t') := fun s t s' t' a b => by
    obtain ⟨a1, a2⟩ := Rl s t a
    obtain ⟨b1, b2⟩ := Rl s' t' b
    rw [kap_eq a1 b1, kap_eq a2 b2, hB s s' a1 b1, hB' t t' a2 b2]
    constructor
    · intro e w hw
      rw [← Ro _ _ (run w s t a hw), ← Ro _ _ (run w s' t' b hw)]
      exact e w hw
    · intro e w hw
      rw [Ro _ _ (run w s t a hw), Ro _ _ (run w s' t' b hw)]
      exact e w hw
  have hg : ∀ (nx : List (List Int)) s k, (ways nx s).getD k 0 = dl nx s k := fun nx s k => by
    unfold ways dl
    generalize nx.getD s [] = l
    rw [List.getD_eq_getElem?_getD, List.getD_eq_getElem?_getD, List.getElem?_map]
    cases l[k]? <;> rfl
  have hr' := spec_sim (nx := nx) (nx' := nx') (ot := ot) (ot' := ot') Rk R0 (fun s t hR => by
    obtain ⟨a1, a2⟩ := Rl s t hR
    refine All2.of_get (by unfold ways; rw [List.length_map, List.length_map, h.row s a1, h'.row t a2]) fun k hkl => ?_
    rw [hg, hg]
    refine Rw s t hR k ?_
    unfold ways at hkl
    rwa [List.length_map, h.row s a1] at hkl) Ro hr
  exact ⟨r, by rw [e, q, hr]; rfl, by rw [e', q', hr']; rfl⟩
end Go.Proofs.Ytnnbofkcfooljaa.T
