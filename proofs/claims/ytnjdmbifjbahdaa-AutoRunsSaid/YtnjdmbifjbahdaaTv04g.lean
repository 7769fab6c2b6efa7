/- AutoRuns: any automaton, any classes. -/
import Derived.Test.YtnjdmbifjbahdaaTv04a
import Derived.Test.YtnjdmbifjbahdaaTvT04xAutoRuns
import Derived.Test.YtnjdmbifjbahdaaTvYb
import Derived.Test.YtnjdmbifjbahdaaTvV
namespace Go.Proofs.Ytnjdmbifjbahdaa.T
open Go Go.Tv Go.Proofs

theorem same_ints {a : List Int} (ha : a.length ≤ 1000000) : stanzaref01_SameInts a a = some true := by
  have hi : iter (stanzaref01_SameInts_L1 a a) (0 : Int) = some (Sum.inl ()) := iter_count (body := stanzaref01_SameInts_L1 a a) (fun k => (k : Int)) a.length (fun k hk => by
    simp only [stanzaref01_SameInts_L1]
    rw [if_pos (by simp only [decide_eq_true_eq]; omega), if_pos ⟨by omega, by omega⟩, if_pos ⟨by omega, by omega⟩, if_neg (by simp), wrap_i64 (by omega) (by omega)]
    rfl) (by simp only [stanzaref01_SameInts_L1]; rw [if_neg (by simp)])
  unfold stanzaref01_SameInts
  rw [if_neg (by simp), hi]
  rfl

/-- A loop that ends at the first one that is so. -/
theorem first_loop {f : Int → Option (Int ⊕ (Unit ⊕ Bool))} (bad : Nat → Bool) (v : Bool) (n : Nat) (h1 : ∀ k, k < n → f (k : Int) = if bad k = true then some (.inr (.inr v)) else some (.inl ((k + 1 : Nat) : Int))) (h2 : f (n : Int) = some (.inr (.inl ()))) :
    iter f (0 : Int) = some (if firstN bad n < n then .inr v else .inl ()) := by
  have hle := firstN_le bad n
  have hlt := fun j (hj : j < firstN bad n) => firstN_lt bad n hj
  have hat := firstN_at bad n
  generalize firstN bad n = k at *
  have hi := iter_count (body := f) (fun j => (j : Int)) k (r := if k < n then Sum.inr v else Sum.inl ()) (fun j hj => by
    rw [h1 j (by omega), hlt j hj, if_neg (by simp)]) (by
    by_cases q : k < n
    · rw [h1 k q, hat q, if_pos rfl, if_pos q]
    · have : k = n := by omega
      subst this
      rw [h2, if_neg q])
  exact hi

def badW (d1 : List (List Int)) (i k : Nat) : Bool := decide ((d1.getD i []).getD k 0 < 0) || decide ((d1.getD i []).getD k 0 ≥ (d1.length : Int))
def badR (d1 : List (List Int)) (i : Nat) : Bool := decide ((d1.getD i []).length ≠ (d1.getD 0 []).length) || decide (firstN (badW d1 i) (d1.getD i []).length < (d1.getD i []).length)

/-- An automaton. -/
structure OkN (d1 : List (List Int)) : Prop where
  pos : 0 < d1.length
  small : d1.length ≤ 100
  big : (d1.getD 0 []).length ≤ maxLen
  row : ∀ s, s < d1.length → (d1.getD s []).length = (d1.getD 0 []).length
  way : ∀ s k, s < d1.length → k < (d1.getD 0 []).length → 0 ≤ (d1.getD s []).getD k 0 ∧ (d1.getD s []).getD k 0 < (d1.length : Int)

section
variable {d1 : List (List Int)} (hn : d1.length ≤ 100) (hr : ∀ i, i < d1.length → (d1.getD i []).length ≤ maxLen)
include hn hr

omit hn in
theorem rchk_L1 {i : Nat} (hi : i < d1.length) : iter (stanzaref04_Check_L1 d1 (i : Int)) (0 : Int) = some (if firstN (badW d1 i) (d1.getD i []).length < (d1.getD i []).length then .inr false else .inl ()) := by
  have hri := hr i hi
  unfold maxLen at hri
  refine first_loop (badW d1 i) false _ (fun k hk => ?_) ?_
  · simp only [stanzaref04_Check_L1, Int.toNat_natCast]
    have hin : 0 ≤ (i : Int) ∧ (i : Int) < (d1.length : Int) := ⟨by omega, by omega⟩
    have hkn : 0 ≤ (k : Int) ∧ (k : Int) < ((d1.getD i []).length : Int) := ⟨by omega, by omega⟩
    simp only [if_pos hin, if_pos hkn]
    rw [if_pos (by simp only [decide_eq_true_eq]; omega), wrap_i64 (by omega) (by omega)]
    by_cases q1 : (d1.getD i []).getD k 0 < 0
    · rw [if_pos (by simpa using q1), show badW d1 i k = true by unfold badW; rw [decide_eq_true q1]; rfl]; rfl
    · rw [if_neg (by simpa using q1), show badW d1 i k = decide ((d1.getD i []).getD k 0 ≥ (d1.length : Int)) by unfold badW; rw [decide_eq_false q1, Bool.false_or]]
      rfl
  · simp only [stanzaref04_Check_L1, Int.toNat_natCast]
    rw [if_pos ⟨by omega, by omega⟩, if_neg (by simp)]
theorem rchk_L2 : iter (stanzaref04_Check_L2 d1) (0 : Int) = some (if firstN (badR d1) d1.length < d1.length then .inr false else .inl ()) := by
  refine first_loop (badR d1) false _ (fun i hi => ?_) ?_
  · have h1 := rchk_L1 hr hi
    simp only [stanzaref04_Check_L2, Int.toNat_natCast, h1]
    rw [if_pos (by simp only [decide_eq_true_eq]; omega), if_pos ⟨by omega, by omega⟩, if_pos ⟨by omega, by omega⟩]
    by_cases q1 : (d1.getD i []).length = (d1.getD 0 []).length
    · have e : (((d1.getD i []).length : Int) != ((d1.getD ((0 : Int).toNat) []).length : Int)) = false := by
        simp only [bne_eq_false_iff_eq, Int.toNat_zero]; omega
      rw [e, if_neg (by simp), Option.bind_some]
      by_cases q2 : firstN (badW d1 i) (d1.getD i []).length < (d1.getD i []).length
      · rw [show badR d1 i = true by unfold badR; rw [decide_eq_true q2, Bool.or_true], if_pos q2]
        rfl
      · rw [show badR d1 i = false by unfold badR; rw [decide_eq_false q2, decide_eq_false (not_not_intro q1)]; rfl, if_neg q2]
        simp only [Bool.false_eq_true, if_false]
        rw [wrap_i64 (by omega) (by omega)]; rfl
    · have e : (((d1.getD i []).length : Int) != ((d1.getD ((0 : Int).toNat) []).length : Int)) = true := by
        simp only [bne_iff_ne, ne_eq, Int.toNat_zero]; omega
      rw [e, if_pos rfl, show badR d1 i = true by unfold badR; rw [decide_eq_true q1, Bool.true_or], if_pos rfl]
  · simp only [stanzaref04_Check_L2]
    rw [if_neg (by simp)]

/-- If the check says so, it is an automaton. -/
theorem chk_ok (d2 : List Int) : ∃ b, stanzaref04_Check d1 d2 = some b ∧ (b = true → OkN d1) := by
  unfold stanzaref04_Check
  rw [rchk_L2 hn hr]
  by_cases q0 : d1.length = 0
  · rw [if_pos (c := decide ((d1.length : Int) < 1) = true) (by simp only [decide_eq_true_eq]; omega)]
    exact ⟨false, rfl, fun q => by cases q⟩
  rw [if_neg (c := decide ((d1.length : Int) < 1) = true) (by simp only [decide_eq_true_eq]; omega)]
  simp only [Option.bind_some]
  by_cases q1 : d1.length = d2.length
  · have e2 : ((d2.length : Int) != (d1.length : Int)) = false := by simp [q1]
    simp only [e2, Bool.false_eq_true, if_false]
    by_cases q2 : firstN (badR d1) d1.length < d1.length
    · rw [if_pos q2]
      exact ⟨false, rfl, fun q => by cases q⟩
    · rw [if_neg q2]
      refine ⟨true, rfl, fun _ => ?_⟩
      have hle := firstN_le (badR d1) d1.length
      have hgood : ∀ i, i < d1.length → badR d1 i = false := fun i hi => firstN_lt (badR d1) d1.length (by omega)
      have hrow : ∀ i, i < d1.length → (d1.getD i []).length = (d1.getD 0 []).length ∧ ∀ k, k < (d1.getD i []).length → badW d1 i k = false := fun i hi => by
        have := hgood i hi
        unfold badR at this
        simp only [Bool.or_eq_false_iff, decide_eq_false_iff_not, ne_eq, Decidable.not_not] at this
        have h3 := firstN_le (badW d1 i) (d1.getD i []).length
        exact ⟨this.1, fun k hk => firstN_lt (badW d1 i) (d1.getD i []).length (by omega)⟩
      exact { pos := by omega, small := hn, big := hr 0 (by omega), row := fun s hs => (hrow s hs).1,
              way := fun s k hs hk => by
                have h3 := (hrow s hs).2 k (by rw [(hrow s hs).1]; exact hk)
                unfold badW at h3
                simp only [Bool.or_eq_false_iff, decide_eq_false_iff_not] at h3
                omega }
  · have e2 : ((d2.length : Int) != (d1.length : Int)) = true := by simp only [bne_iff_ne, ne_eq]; omega
    rw [e2]
    exact ⟨false, rfl, fun q => by cases q⟩
end

section
variable {d1 : List (List Int)} (hA : OkN d1)
include hA

/-- Classes that are made to fit. -/
theorem fit_loop (i1 : List Int) (x1 : Bool) (hi : i1.length ≤ 200) : ∃ r, iter (stanzalaw04_AutoRuns_L1 d1 i1 x1) ((([] : List Int) ++ i1), (0 : Int)) = some r ∧ r.length = i1.length := by
  have hbig := hA.big
  have hpos := hA.pos
  have hsm := hA.small
  unfold maxLen at hbig
  refine iter_rule (body := stanzalaw04_AutoRuns_L1 d1 i1 x1) (fun st => st.1.length = i1.length ∧ 0 ≤ st.2 ∧ st.2 ≤ (i1.length : Int)) (fun st => (i1.length - st.2).toNat) (fun r => r.length = i1.length) (fun st hst => ?_) ⟨rfl, by simp, by simp⟩
  obtain ⟨v9, v10⟩ := st
  obtain ⟨h1, h2, h3⟩ := hst
  simp only at h1 h2 h3
  simp only [stanzalaw04_AutoRuns_L1, List.nil_append, Int.toNat_zero]
  by_cases q : v10 < (i1.length : Int)
  · refine .inl ?_
    rw [if_pos (c := decide (v10 < (i1.length : Int)) = true) (by simpa using q)]
    have hw : IntKind.i64.wrap (v10 + 1) = v10 + 1 := wrap_i64 (by omega) (by omega)
    have c0 : 0 ≤ (0 : Int) ∧ (0 : Int) < (d1.length : Int) := ⟨by omega, by omega⟩
    have c1 : 0 ≤ v10 ∧ v10 < (v9.length : Int) := ⟨by omega, by omega⟩
    have c2 : v10.toNat < v9.length := by omega
    simp only [if_pos c0, if_pos c1, if_pos c2, hw]
    have skip : ∃ y, (Option.some (v9 : List Int)).bind (fun v13 => some (Sum.inl (v13, v10 + 1))) = some (Sum.inl y : ((List Int) × Int) ⊕ List Int) ∧ (y.1.length = i1.length ∧ 0 ≤ y.2 ∧ y.2 ≤ (i1.length : Int)) ∧ ((i1.length : Int) - y.2).toNat < ((i1.length : Int) - v10).toNat :=
      ⟨_, rfl, ⟨h1, by simp only; omega, by simp only; omega⟩, by simp only; omega⟩
    cases x1 with
    | false => exact skip
    | true =>
      simp only [if_true, Option.bind_some]
      by_cases q2 : ((d1.getD 0 []).length : Int) > 0
      · rw [if_pos (c := decide (((d1.getD 0 []).length : Int) > 0) = true) (by simpa using q2)]
        have hw2 : ¬ IntKind.u64.wrap ((d1.getD 0 []).length : Int) = 0 := by rw [wrap_u64 (by omega) (by omega)]; omega
        rw [if_pos hw2]
        exact ⟨_, rfl, ⟨by simp [h1], by simp only; omega, by simp only; omega⟩, by simp only; omega⟩
      · rw [if_neg (c := decide (((d1.getD 0 []).length : Int) > 0) = true) (by simpa using q2)]
        exact skip
  · refine .inr ?_
    rw [if_neg (c := decide (v10 < (i1.length : Int)) = true) (by simpa using q)]
    exact ⟨_, rfl, h1⟩

variable (c : List Int) (hc : c.length ≤ 200)
include hc
theorem both_step {out : List Int} {s v : Int} (h1 : 0 ≤ s) (h2 : s < (d1.length : Int)) (h3 : 0 ≤ v) (h4 : v ≤ (c.length : Int)) (h5 : (out.length : Int) = v + 1) :
    ∃ o, stanzalaw04_AutoRuns_L2 d1 c (out, s, v) = some o ∧ auto_Run_L1 d1 c (out, s, v) = some o ∧
      (match o with | .inl y => (0 ≤ y.2.1 ∧ y.2.1 < (d1.length : Int) ∧ 0 ≤ y.2.2 ∧ y.2.2 ≤ (c.length : Int) ∧ (y.1.length : Int) = y.2.2 + 1) ∧ ((c.length : Int) - y.2.2).toNat < ((c.length : Int) - v).toNat | .inr r => r.length ≤ 201) := by
  have hpos := hA.pos
  have hrow := hA.row s.toNat (by omega)
  simp only [stanzalaw04_AutoRuns_L2, auto_Run_L1, Int.toNat_zero, hrow]
  by_cases q : v < (c.length : Int)
  · rw [if_pos (c := decide (v < (c.length : Int)) = true) (by simpa using q), if_pos (c := decide (v < (c.length : Int)) = true) (by simpa using q)]
    have hw : IntKind.i64.wrap (v + 1) = v + 1 := wrap_i64 (by omega) (by omega)
    have c0 : 0 ≤ (0 : Int) ∧ (0 : Int) < (d1.length : Int) := ⟨by omega, by omega⟩
    have c1 : 0 ≤ v ∧ v < (c.length : Int) := ⟨by omega, by omega⟩
    have c2 : v.toNat < c.length := by omega
    have c3 : 0 ≤ s ∧ s < (d1.length : Int) := ⟨h1, h2⟩
    simp only [if_pos c0, if_pos c1, if_pos c2, if_pos c3, hw]
    by_cases q1 : c.getD v.toNat 0 < 0
    · rw [if_pos (c := decide (c.getD v.toNat 0 < 0) = true) (by simpa using q1)]
      simp only [Option.bind_some, if_true]
      exact ⟨_, rfl, rfl, by simp only; omega⟩
    · rw [if_neg (c := decide (c.getD v.toNat 0 < 0) = true) (by simpa using q1)]
      simp only [Option.bind_some]
      by_cases q2 : c.getD v.toNat 0 ≥ ((d1.getD 0 []).length : Int)
      · rw [if_pos (c := decide (c.getD v.toNat 0 ≥ ((d1.getD 0 []).length : Int)) = true) (by simpa using q2)]
        exact ⟨_, rfl, rfl, by simp only; omega⟩
      · rw [if_neg (c := decide (c.getD v.toNat 0 ≥ ((d1.getD 0 []).length : Int)) = true) (by simpa using q2)]
        have c4 : 0 ≤ c.getD v.toNat 0 ∧ c.getD v.toNat 0 < ((d1.getD 0 []).length : Int) := ⟨by omega, by omega⟩
        have hway := hA.way s.toNat (c.getD v.toNat 0).toNat (by omega) (by omega)
        rw [if_pos c4]
        simp only [List.length_cons, List.length_nil]
        rw [if_pos (by omega)]
        refine ⟨_, rfl, rfl, ⟨hway.1, hway.2, by simp only; omega, by simp only; omega, ?_⟩, by simp only; omega⟩
        simp only [List.length_append, List.length_cons, List.length_nil]
        omega
  · rw [if_neg (c := decide (v < (c.length : Int)) = true) (by simpa using q), if_neg (c := decide (v < (c.length : Int)) = true) (by simpa using q)]
    exact ⟨_, rfl, rfl, by simp only; omega⟩

theorem both_run (d2 : List Int) : ∃ r, iter (stanzalaw04_AutoRuns_L2 d1 c) (([(0 : Int)] : List Int), (0 : Int), (0 : Int)) = some r ∧ auto_Run d1 d2 c = some r ∧ r.length ≤ 201 := by
  have hpos := hA.pos
  have I0 : 0 ≤ (0 : Int) ∧ (0 : Int) < (d1.length : Int) ∧ 0 ≤ (0 : Int) ∧ (0 : Int) ≤ (c.length : Int) ∧ ((([(0 : Int)] : List Int).length : Nat) : Int) = 0 + 1 := ⟨by omega, by omega, by omega, by omega, by simp⟩
  obtain ⟨r, h1, h2⟩ := iter_rule (body := stanzalaw04_AutoRuns_L2 d1 c) (fun st => 0 ≤ st.2.1 ∧ st.2.1 < (d1.length : Int) ∧ 0 ≤ st.2.2 ∧ st.2.2 ≤ (c.length : Int) ∧ (st.1.length : Int) = st.2.2 + 1) (fun st => ((c.length : Int) - st.2.2).toNat) (fun r => r.length ≤ 201) (fun st hst => by
    obtain ⟨out, s, v⟩ := st
    obtain ⟨o, e1, _, e3⟩ := both_step hA c hc hst.1 hst.2.1 hst.2.2.1 hst.2.2.2.1 hst.2.2.2.2
    cases o with
    | inl y => exact .inl ⟨y, e1, e3.1, e3.2⟩
    | inr q => exact .inr ⟨q, e1, e3⟩) (s := (([(0 : Int)] : List Int), (0 : Int), (0 : Int))) I0
  obtain ⟨r', h3, h4⟩ := iter_sim (body := stanzalaw04_AutoRuns_L2 d1 c) (body' := auto_Run_L1 d1 c) (fun st st' => st = st' ∧ 0 ≤ st.2.1 ∧ st.2.1 < (d1.length : Int) ∧ 0 ≤ st.2.2 ∧ st.2.2 ≤ (c.length : Int) ∧ (st.1.length : Int) = st.2.2 + 1) (fun r r' => r = r') (fun st st' o hst ho => by
    obtain ⟨rfl, hst⟩ := hst
    obtain ⟨out, s, v⟩ := st
    obtain ⟨o', e1, e2, e3⟩ := both_step hA c hc hst.1 hst.2.1 hst.2.2.1 hst.2.2.2.1 hst.2.2.2.2
    rw [ho] at e1
    cases e1
    refine ⟨o, e2, ?_⟩
    cases o with
    | inl y => exact ⟨rfl, e3.1⟩
    | inr q => exact rfl) ⟨rfl, I0⟩ h1
  subst h4
  refine ⟨r, h1, ?_, h2⟩
  unfold auto_Run
  rw [if_neg (by simp only [beq_iff_eq]; omega), h3]
  rfl
end

abbrev autoRuns_Ts : List Ty := [(.prod (.slice (.slice (.int .i64))) (.slice (.int .u32))), (.slice (.int .i64)), .bool]
theorem autoRuns_all (x : Tup autoRuns_Ts) (hx : WfT autoRuns_Ts x) : stanzalaw04_AutoRuns x.1.1 x.1.2 x.2.1 x.2.2.1 = some true := by
  obtain ⟨⟨d1, d2⟩, i1, x1, u⟩ := x
  have hrows : ∀ i, i < d1.length → (d1.getD i []).length ≤ maxLen := fun i hi => by
    have := (hx.1.1.2 i hi).1
    rw [getD_lt hi]
    exact this
  show stanzalaw04_AutoRuns d1 d2 i1 x1 = some true
  unfold stanzalaw04_AutoRuns
  rw [awake04]
  simp only [Option.bind_some, Bool.not_true, Bool.false_eq_true, if_false]
  by_cases q1 : (d1.length : Int) > 100
  · rw [if_pos (c := decide ((d1.length : Int) > 100) = true) (by simpa using q1)]
    rfl
  rw [if_neg (c := decide ((d1.length : Int) > 100) = true) (by simpa using q1)]
  simp only [Option.bind_some]
  by_cases q2 : (i1.length : Int) > 200
  · rw [if_pos (c := decide ((i1.length : Int) > 200) = true) (by simpa using q2)]
  rw [if_neg (c := decide ((i1.length : Int) > 200) = true) (by simpa using q2)]
  obtain ⟨b, h1, h2⟩ := chk_ok (by omega) hrows d2
  rw [h1]
  simp only [Option.bind_some]
  cases b with
  | false =>
    simp only [Bool.not_false, if_true]
    by_cases q3 : (d1.length : Int) > 0
    · rw [if_pos (c := decide ((d1.length : Int) > 0) = true) (by simpa using q3)]
      rfl
    · rw [if_neg (c := decide ((d1.length : Int) > 0) = true) (by simpa using q3)]
      have e : auto_Run d1 d2 i1 = some [] := by
        unfold auto_Run
        rw [if_pos (by simp only [beq_iff_eq]; omega)]
      rw [e]
      rfl
  | true =>
    have hA := h2 rfl
    simp only [Bool.not_true, Bool.false_eq_true, if_false]
    rw [if_pos (by simp only [List.length_nil]; omega)]
    obtain ⟨c, h3, h4⟩ := fit_loop hA i1 x1 (by omega)
    rw [h3]
    simp only [Option.bind_some]
    obtain ⟨r, h5, h6, h7⟩ := both_run hA c (by omega) d2
    rw [h5]
    simp only [Option.bind_some]
    rw [h6]
    simp only [Option.bind_some]
    rw [same_ints (by omega)]
    rfl
end Go.Proofs.Ytnjdmbifjbahdaa.T
