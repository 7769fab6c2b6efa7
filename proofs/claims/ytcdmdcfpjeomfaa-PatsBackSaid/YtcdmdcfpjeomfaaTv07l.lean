/- Patterns: what a word may come to, and such a word written. -/
import Derived.Test.YtcdmdcfpjeomfaaTv07k
namespace Go.Proofs.Ytcdmdcfpjeomfaa.T
open Go Go.Tv Go.Proofs

def vOk (told : Bool) (v : Int) : Prop := (told = true → v = 0 ∨ v = 1) ∧ 0 ≤ v ∧ v ≤ 9
def letOk (c : Int) : Prop := c ≠ 65533 ∧ c ≠ 45 ∧ ¬ isDig c
/-- Letters and values that a word may come to; first: is it the word's beginning. -/
def WOk (told : Bool) : Bool → List Int → List Int → Prop
  | _, [], V => ∃ v, V = [v] ∧ vOk told v ∧ (told = true → v = 0)
  | first, c :: L, V => ∃ v V', V = v :: V' ∧ vOk told v ∧ (told = true → first = true → v = 0) ∧ letOk c ∧ (c = 46 → told = false ∧ ((first = true ∧ v = 0) ∨ (L = [] ∧ V' = [0]))) ∧ WOk told false L V'

theorem pat_img {told : Bool} {N : Nat} : ∀ (rs : List Int) (i : Nat) (L V : List Int) (v : Int) (st : Bool) (plain : Nat) {p : Pat}, patS told N rs i L V v st plain = some p → i + rs.length = N → L.length ≤ i → vOk told v →
    (told = true → L.length = 0 → v = 0) → (i = 0 → v = 0) → (told = true → rs.length = 0 → v = 0) → (st = false → v = 0) →
    ∃ Ls Vs, p = (L ++ Ls, V ++ Vs) ∧ WOk told (decide (L.length = 0)) Ls Vs ∧ (plain = 0 → ∃ c ∈ Ls, c ≠ 46) ∧ (told = true → (v ≠ 0 ∨ 45 ∈ rs) → ∃ u ∈ Vs, u ≠ 0) ∧ (∀ c ∈ Ls, c ∈ rs)
  | [], i, L, V, v, st, plain, p, h, hN, hL, hv, h1, h2, h3, h4 => by
    simp only [patS] at h
    split at h
    · rename_i hp
      cases h
      refine ⟨[], [v], by simp, ⟨v, rfl, hv, fun t => h3 t rfl⟩, fun q => absurd q (by omega), fun _ q => ⟨v, .head _, ?_⟩, fun c hc => by cases hc⟩
      rcases q with q | q
      · exact q
      · cases q
    · cases h
  | c :: r, i, L, V, v, st, plain, p, h, hN, hL, hv, h1, h2, h3, h4 => by
    simp only [patS] at h
    simp only [List.length_cons] at hN
    split at h
    · cases h
    rename_i hc0
    split at h
    · rename_i hc1
      split at h
      · cases h
      · rename_i hc2
        have hst : st = false := by
          cases st with
          | false => rfl
          | true => exact absurd (.inl rfl) hc2
        have htd : told = decide (c = 45) := by
          by_cases q : told = decide (c = 45)
          · exact q
          · exact absurd (.inr (.inl q)) hc2
        have hv0 := h4 hst
        cases ht : told with
        | true =>
          subst ht
          simp only [if_true] at h
          have hne : ¬ (L.length = 0 ∨ i + 1 = N) := fun q => hc2 (.inr (.inr ⟨rfl, q⟩))
          obtain ⟨Ls, Vs, e1, e2, e3, e4, e5⟩ := pat_img r (i + 1) L V 1 true plain h (by omega) (by omega) ⟨fun _ => .inr rfl, by decide, by decide⟩ (fun _ q => absurd (.inl q) hne) (fun q => by omega) (fun _ q => absurd (.inr (by omega)) hne) (fun q => by cases q)
          exact ⟨Ls, Vs, e1, e2, e3, fun _ _ => e4 rfl (.inl (by decide)), fun c hc => .tail _ (e5 c hc)⟩
        | false =>
          subst ht
          simp only [Bool.false_eq_true, if_false] at h
          have hd : isDig c := by
            rcases hc1 with q | q
            · rw [q] at htd; simp at htd
            · exact q
          unfold isDig at hd
          obtain ⟨Ls, Vs, e1, e2, e3, e4, e5⟩ := pat_img r (i + 1) L V (c - 48) true plain h (by omega) (by omega) ⟨fun q => (by cases q), by omega, by omega⟩ (fun q => by cases q) (fun q => by omega) (fun q => by cases q) (fun q => by cases q)
          exact ⟨Ls, Vs, e1, e2, e3, fun q => (by cases q), fun c hc => .tail _ (e5 c hc)⟩
    · rename_i hc1
      have hlet : letOk c := ⟨hc0, fun q => hc1 (.inl q), fun q => hc1 (.inr q)⟩
      have hv00 : vOk told 0 := ⟨fun _ => .inl rfl, by decide, by decide⟩
      have happ : ∀ (plain' : Nat), patS told N r (i + 1) (L ++ [c]) (V ++ [v]) 0 false plain' = some p → (c = 46 → told = false ∧ (i = 0 ∨ i + 1 = N)) → (plain' = 0 → plain = 0 ∧ c = 46) → (c = 46 → plain' = plain) →
          ∃ Ls Vs, p = (L ++ Ls, V ++ Vs) ∧ WOk told (decide (L.length = 0)) Ls Vs ∧ (plain = 0 → ∃ c ∈ Ls, c ≠ 46) ∧ (told = true → (v ≠ 0 ∨ 45 ∈ c :: r) → ∃ u ∈ Vs, u ≠ 0) ∧ (∀ d ∈ Ls, d ∈ c :: r) := fun plain' h' hdot hpl hpl2 => by
        obtain ⟨Ls, Vs, e1, e2, e3, e4, e5⟩ := pat_img r (i + 1) (L ++ [c]) (V ++ [v]) 0 false plain' h' (by omega) (by simp only [List.length_append, List.length_cons, List.length_nil]; omega) hv00 (fun _ _ => rfl) (fun q => by omega) (fun _ _ => rfl) (fun _ => rfl)
        have hlast : r = [] → Ls = [] ∧ Vs = [0] := fun hr => by
          subst hr
          simp only [patS] at h'
          split at h'
          · cases h'
            have := Prod.mk.inj e1
            have a1 : L ++ [c] ++ [] = L ++ [c] ++ Ls := by rw [List.append_nil]; exact this.1
            exact ⟨(List.append_cancel_left a1).symm, (List.append_cancel_left this.2).symm⟩
          · cases h'
        rw [show decide ((L ++ [c]).length = 0) = false from decide_eq_false (by simp)] at e2
        refine ⟨c :: Ls, v :: Vs, by rw [e1, List.append_assoc, List.append_assoc]; rfl, ⟨v, Vs, rfl, hv, fun t q => h1 t (of_decide_eq_true q), hlet, fun q => ?_, e2⟩, fun q => ?_, fun t q => ?_, fun d hd => ?_⟩
        · obtain ⟨d1, d2⟩ := hdot q
          refine ⟨d1, ?_⟩
          rcases d2 with d2 | d2
          · exact .inl ⟨decide_eq_true (by omega), h2 d2⟩
          · exact .inr (hlast (List.eq_nil_of_length_eq_zero (by omega)))
        · by_cases q46 : c = 46
          · obtain ⟨d, d1, d2⟩ := e3 (by rw [hpl2 q46]; exact q)
            exact ⟨d, .tail _ d1, d2⟩
          · exact ⟨c, .head _, q46⟩
        · rcases q with q | q
          · exact ⟨v, .head _, q⟩
          · rcases List.mem_cons.mp q with q | q
            · exact absurd q.symm hlet.2.1
            · obtain ⟨u, u1, u2⟩ := e4 t (.inr q)
              exact ⟨u, .tail _ u1, u2⟩
        · rcases List.mem_cons.mp hd with q | q
          · rw [q]; exact .head _
          · exact .tail _ (e5 d q)
      split at h
      · rename_i hc46
        split at h
        · cases h
        · rename_i hn
          refine happ plain h (fun _ => ?_) (fun q => ⟨q, hc46⟩) (fun _ => rfl)
          have t1 : told = false := by
            cases told with
            | false => rfl
            | true => exact absurd (.inl rfl) hn
          refine ⟨t1, ?_⟩
          by_cases q : i = 0
          · exact .inl q
          · by_cases q2 : i + 1 = N
            · exact .inr q2
            · exact absurd (.inr ⟨q, q2⟩) hn
      · rename_i hc46
        exact happ (plain + 1) h (fun q => absurd q hc46) (fun q => by omega) (fun q => absurd q hc46)

/-- A value, written. -/
def dg (told : Bool) (v : Int) : List Int := if v = 0 then [] else [if told = true then 45 else 48 + v]
/-- A word, written. -/
def wlt (told : Bool) : List Int → List Int → List Int
  | _, [] => []
  | [], v :: _ => dg told v
  | c :: L, v :: V => dg told v ++ c :: wlt told L V

theorem dg_step {told : Bool} {N : Nat} {v : Int} (hv : vOk told v) (rest : List Int) (i : Nat) (L V : List Int) (plain : Nat) (hN : i + (dg told v ++ rest).length = N) (h1 : told = true → L.length = 0 → v = 0) (h2 : told = true → rest.length = 0 → v = 0) :
    patS told N (dg told v ++ rest) i L V 0 false plain = patS told N rest (i + (dg told v).length) L V v (decide (v ≠ 0)) plain := by
  unfold dg at hN ⊢
  by_cases q : v = 0
  · subst q; rfl
  rw [if_neg q] at hN ⊢
  simp only [List.singleton_append, List.length_cons] at hN
  simp only [List.singleton_append, patS, List.length_cons, List.length_nil, Nat.zero_add]
  have hd : decide (v ≠ 0) = true := decide_eq_true q
  rw [hd]
  obtain ⟨hv1, hv2, hv3⟩ := hv
  cases ht : told with
  | true =>
    subst ht
    have := hv1 rfl
    have hv1 : v = 1 := by omega
    subst hv1
    simp only [if_true]
    rw [if_neg (by decide), if_pos (.inl trivial), if_neg]
    rintro (q1 | q1 | ⟨_, q1 | q1⟩)
    · cases q1
    · exact q1 (by simp)
    · exact q (h1 rfl q1)
    · exact q (h2 rfl (by omega))
  | false =>
    subst ht
    simp only [Bool.false_eq_true, if_false]
    rw [if_neg (by omega), if_pos (.inr (by unfold isDig; omega)), if_neg]
    · congr 1; omega
    · rintro (q1 | q1 | ⟨q1, _⟩)
      · exact q1
      · exact q1 (by rw [decide_eq_false]; omega)
      · exact q1

theorem reread {told : Bool} {N : Nat} : ∀ (Ls Vs : List Int) (i : Nat) (L V : List Int) (plain : Nat) (first : Bool), WOk told first Ls Vs → i + (wlt told Ls Vs).length = N → (first = true → i = 0) → (L.length = 0 → first = true) → (L ++ Ls).length ≤ 24 → (0 < plain ∨ ∃ c ∈ Ls, c ≠ 46) →
    patS told N (wlt told Ls Vs) i L V 0 false plain = some (L ++ Ls, V ++ Vs)
  | [], Vs, i, L, V, plain, first, hw, hN, hf, hL, h24, hp => by
    obtain ⟨v, rfl, hv, h0⟩ := hw
    have hp' : 0 < plain := by
      rcases hp with q | ⟨c, q, _⟩
      · exact q
      · cases q
    simp only [wlt] at hN ⊢
    have := dg_step (N := N) hv [] i L V plain (by rw [List.append_nil]; exact hN) (fun t _ => h0 t) (fun t _ => h0 t)
    rw [List.append_nil] at this
    rw [this]
    simp only [patS]
    rw [List.append_nil] at h24 ⊢
    rw [if_pos ⟨hp', h24⟩]
  | c :: Ls, Vs, i, L, V, plain, first, hw, hN, hf, hL, h24, hp => by
    obtain ⟨v, V', rfl, hv, h0, hlet, hdot, hw'⟩ := hw
    simp only [wlt] at hN ⊢
    rw [dg_step hv _ i L V plain hN (fun t q => h0 t (hL q)) (fun _ q => by simp at q)]
    simp only [List.length_append, List.length_cons] at hN h24
    simp only [patS]
    rw [if_neg hlet.1, if_neg (by rintro (q | q); exact hlet.2.1 q; exact hlet.2.2 q)]
    have ih := fun plain' hp' => reread (told := told) (N := N) Ls V' (i + (dg told v).length + 1) (L ++ [c]) (V ++ [v]) plain' false hw' (by omega) (fun q => by cases q) (fun q => by simp at q) (by simp only [List.length_append, List.length_cons, List.length_nil]; omega) hp'
    rw [List.append_assoc, List.append_assoc] at ih
    by_cases q : c = 46
    · obtain ⟨d1, d2⟩ := hdot q
      rw [if_pos q, if_neg]
      · refine ih plain ?_
        rcases hp with hp | ⟨d, hd, hd2⟩
        · exact .inl hp
        · rcases List.mem_cons.mp hd with e | e
          · exact absurd (e.trans q) hd2
          · exact .inr ⟨d, e, hd2⟩
      · rintro (e | ⟨e1, e2⟩)
        · rw [d1] at e; cases e
        · rcases d2 with ⟨a1, a2⟩ | ⟨a1, a2⟩
          · subst a2
            exact e1 (by rw [hf a1]; rfl)
          · subst a1
            subst a2
            exact e2 (by simp [wlt, dg] at hN; simp only [dg] ; omega)
    · rw [if_neg q]
      exact ih (plain + 1) (.inl (by omega))

/-- A pattern that may be read. -/
structure Img (told : Bool) (p : Pat) : Prop where
  w : WOk told true p.1 p.2
  pl : ∃ c ∈ p.1, c ≠ 46
  le : p.1.length ≤ 24
  hy : told = true → ∃ u ∈ p.2, u ≠ 0
  lt : ∀ c ∈ p.1, isBl c = false ∧ Val c

theorem WOk.letters {told : Bool} : ∀ {first : Bool} {L V : List Int}, WOk told first L V → ∀ c ∈ L, letOk c
  | _, [], _, _, c, hc => by cases hc
  | _, d :: L, V, h, c, hc => by
    obtain ⟨v, V', _, _, _, h1, _, h2⟩ := h
    rcases List.mem_cons.mp hc with q | q
    · rw [q]; exact h1
    · exact h2.letters c q
theorem WOk.vals {told : Bool} : ∀ {first : Bool} {L V : List Int}, WOk told first L V → V.length = L.length + 1 ∧ ∀ v ∈ V, vOk told v
  | _, [], _, h => by
    obtain ⟨v, rfl, h1, _⟩ := h
    exact ⟨rfl, fun u hu => by rw [List.mem_singleton.mp hu]; exact h1⟩
  | _, d :: L, V, h => by
    obtain ⟨v, V', rfl, h0, _, _, _, h2⟩ := h
    obtain ⟨i1, i2⟩ := h2.vals
    refine ⟨by simp [i1], fun u hu => ?_⟩
    rcases List.mem_cons.mp hu with q | q
    · rw [q]; exact h0
    · exact i2 u q

theorem patR_img {rs : List Int} {p : Pat} (h : patR rs = some p) (hb : ∀ c ∈ rs, isBl c = false ∧ (c ≠ 65533 → Val c)) : Img (hasH rs) p := by
  have h24 := patR_len h
  unfold patR at h
  obtain ⟨Ls, Vs, e1, e2, e3, e4, e5⟩ := pat_img rs 0 [] [] 0 false 0 h (by omega) (Nat.le_refl _) ⟨fun _ => .inl rfl, by decide, by decide⟩ (fun _ _ => rfl) (fun _ => rfl) (fun _ _ => rfl) (fun _ => rfl)
  rw [List.nil_append, List.nil_append] at e1
  subst e1
  refine ⟨e2, e3 rfl, h24, fun t => e4 t (.inr ?_), fun c hc => ⟨(hb c (e5 c hc)).1, (hb c (e5 c hc)).2 (e2.letters c hc).1⟩⟩
  obtain ⟨x, x1, x2⟩ := List.any_eq_true.mp t
  rw [← eq_of_beq x2]
  exact x1

theorem wl_mem {told : Bool} : ∀ {L V : List Int} {c : Int}, c ∈ wlt told L V → c ∈ L ∨ ∃ v ∈ V, v ≠ 0 ∧ c = if told = true then 45 else 48 + v
  | L, [], c, h => by cases L <;> cases h
  | [], v :: V, c, h => by
    simp only [wlt, dg] at h
    split at h
    · cases h
    · rename_i h0; exact .inr ⟨v, .head _, h0, List.mem_singleton.mp h⟩
  | d :: L, v :: V, c, h => by
    simp only [wlt] at h
    rcases List.mem_append.mp h with q | q
    · unfold dg at q
      split at q
      · cases q
      · rename_i h0; exact .inr ⟨v, .head _, h0, List.mem_singleton.mp q⟩
    · rcases List.mem_cons.mp q with q | q
      · rw [q]; exact .inl (.head _)
      · rcases wl_mem q with q | ⟨u, u1, u2⟩
        · exact .inl (.tail _ q)
        · exact .inr ⟨u, .tail _ u1, u2⟩
theorem wl_hyph : ∀ {L V : List Int}, V.length = L.length + 1 → (∃ u ∈ V, u ≠ 0) → 45 ∈ wlt true L V
  | [], V, h, ⟨u, u1, u2⟩ => by
    match V, h with
    | [v], _ =>
      have := List.mem_singleton.mp u1
      subst this
      simp [wlt, dg, u2]
  | c :: L, V, h, ⟨u, u1, u2⟩ => by
    match V, h with
    | v :: V, h =>
      simp only [wlt]
      rcases List.mem_cons.mp u1 with q | q
      · subst q
        refine List.mem_append.mpr (.inl ?_)
        simp [dg, u2]
      · exact List.mem_append.mpr (.inr (.tail _ (wl_hyph (by simpa using h) ⟨u, q, u2⟩)))

theorem img_back {told : Bool} {p : Pat} (h : Img told p) : hasH (wlt told p.1 p.2) = told ∧ patR (wlt told p.1 p.2) = some p := by
  have hH : hasH (wlt told p.1 p.2) = told := by
    obtain ⟨hl, hv⟩ := h.w.vals
    cases ht : told with
    | true =>
      subst ht
      exact List.any_eq_true.mpr ⟨45, wl_hyph hl (h.hy rfl), rfl⟩
    | false =>
      subst ht
      refine List.any_eq_false.mpr fun c hc q => ?_
      have hc45 : c = 45 := eq_of_beq q
      rcases wl_mem hc with q | ⟨v, v1, v2, v3⟩
      · exact (h.w.letters c q).2.1 hc45
      · have := (hv v v1).2
        simp only [Bool.false_eq_true, if_false] at v3
        omega
  refine ⟨hH, ?_⟩
  unfold patR
  rw [hH]
  have := reread (told := told) (N := (wlt told p.1 p.2).length) p.1 p.2 0 [] [] 0 true h.w (by omega) (fun _ => rfl) (fun _ => rfl) h.le (.inr h.pl)
  rw [this]
  rfl
end Go.Proofs.Ytcdmdcfpjeomfaa.T
