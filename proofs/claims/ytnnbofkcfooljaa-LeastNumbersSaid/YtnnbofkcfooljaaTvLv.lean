/- LeastMakes, LeastChecks: for all data. -/
import Derived.Test.YtnnbofkcfooljaaTvLsm
import Derived.Test.YtnnbofkcfooljaaTvLr
import Derived.Test.YtnnbofkcfooljaaTvT05xLeastMakes
import Derived.Test.YtnnbofkcfooljaaTvT05xLeastChecks
namespace Go.Proofs.Ytnnbofkcfooljaa.T
open Go Go.Tv Go.Proofs

/-! ### LeastMakes -/
theorem copied_eq {a : List (List Int)} {b : List Int} (h1 : a.length ≤ 1000000) (h2 : b.length ≤ 1000000) (h3 : ∀ l ∈ a, l.length ≤ 1000000) : stanzalaw05_copied a b = some (a, b) := by
  have hi := iter_count (body := stanzalaw05_copied_L1 a) (fun k => (a.take k, (k : Int))) a.length (r := a) (fun k hk => by
    have hl := h3 _ (getD_mem' (d := []) hk)
    have hln : (a.take k).length ≤ 1000000 := by rw [List.length_take]; omega
    simp only [stanzalaw05_copied_L1, Int.toNat_natCast, List.nil_append, List.length_nil, Nat.zero_add]
    rw [if_pos (by simp only [decide_eq_true_eq]; omega), if_pos ⟨by omega, by omega⟩, if_pos ⟨by omega, by omega⟩, if_pos ⟨by simp only [List.length_cons, List.length_nil]; omega, by simp only [List.length_cons, List.length_nil]; omega⟩, wrap_i64 (by omega) (by omega), take_succ' (d := []) hk]
    rfl) (by
    simp only [stanzalaw05_copied_L1, List.take_length]
    rw [if_neg (by simp)])
  have hi' : iter (stanzalaw05_copied_L1 a) (([] : List (List Int)), (0 : Int)) = some a := hi
  unfold stanzalaw05_copied
  rw [hi']
  simp only [Option.bind_some, List.nil_append, List.length_nil, Nat.zero_add]
  rw [if_pos ⟨by omega, by omega⟩]

theorem leastMakes_true {d1 i1 : List Int} {x1 : Int} (h0 : ∀ x ∈ d1, 0 ≤ x) (h1 : 0 ≤ x1 ∧ x1 ≤ 255) (hi : i1.length ≤ 9223372036854775807) : stanzalaw05_LeastMakes d1 i1 x1 = some true := by
  have hc : IntKind.i64.wrap (Int.tmod x1 (4 : Int)) = (((x1 % 4).toNat : Nat) : Int) := by
    rw [Int.tmod_eq_emod_of_nonneg h1.1, wrap_i64 (by omega) (by omega)]; omega
  have hc4 : (x1 % 4).toNat ≤ 3 := by omega
  unfold stanzalaw05_LeastMakes
  rw [awake, made_eq hc hc4 hi]
  simp only [Option.bind_some, Bool.not_true, Bool.false_eq_true, if_false]
  have hl : (madeN d1 i1 (x1 % 4).toNat (min d1.length 30)).length = min d1.length 30 := by simp [madeN]
  by_cases hd : 0 < d1.length
  · have ok := made_ok (i1 := i1) hd hc4 h0
    have hlo := ok.ho
    have hrow : ∀ l ∈ madeN d1 i1 (x1 % 4).toNat (min d1.length 30), l.length ≤ 1000 := fun l hl' => by
      unfold madeN at hl'
      obtain ⟨i, _, rfl⟩ := List.mem_map.mp hl'
      simp only [List.length_map, List.length_range]; omega
    obtain ⟨x, e1, e2⟩ := refleast_eq ok
    rw [if_neg (by simp only [beq_iff_eq]; omega), copied_eq (by omega) (by omega) (fun l h => by have := hrow l h; omega)]
    simp only [Option.bind_some]
    rw [e1]
    simp only [Option.bind_some]
    rw [if_pos (by simp), e2]
    simp only [Option.bind_some]
    have hs2 : Small (madeN d1 i1 (x1 % 4).toNat (min d1.length 30), madeO d1 (min d1.length 30)) := ⟨by simp only; omega, by simp only; omega, hrow⟩
    rw [same_auto (make_small ok e1), same_auto hs2]
    rfl
  · have hz : d1 = [] := List.eq_nil_of_length_eq_zero (by omega)
    rw [if_pos (by simp only [beq_iff_eq]; omega)]
    unfold least_Check
    rw [if_pos (by simp only [beq_iff_eq]; omega)]
    rfl

/-! ### LeastChecks -/
/-- A loop that ends at the first one that is so. -/
theorem first_loop {f : Int → Option (Int ⊕ (Unit ⊕ Bool))} (bad : Nat → Bool) (v : Bool) (n : Nat) (h1 : ∀ k, k < n → f (k : Int) = if bad k = true then some (.inr (.inr v)) else some (.inl ((k + 1 : Nat) : Int))) (h2 : f (n : Int) = some (.inr (.inl ()))) :
    iter f (0 : Int) = some (if firstN bad n < n then .inr v else .inl ()) := by
  have hle := firstN_le bad n
  have hlt := fun j (hj : j < firstN bad n) => firstN_lt bad n hj
  have hat := firstN_at bad n
  generalize firstN bad n = k at *
  have hi := iter_count (body := f) (fun j => (j : Int)) k (r := if k < n then Sum.inr v else Sum.inl ()) (fun j hj => by
    rw [h1 j (by omega), hlt j hj, if_neg (by simp)]) (by
    by_cases q : k < n
    · rw [h1 k q, hat q, if_pos rfl, if_pos q]
    · have : k = n := by omega
      subst this
      rw [h2, if_neg q])
  exact hi

def badW (d1 : List (List Int)) (i k : Nat) : Bool := decide ((d1.getD i []).getD k 0 < 0) || decide ((d1.getD i []).getD k 0 ≥ (d1.length : Int))
def badR (d1 : List (List Int)) (i : Nat) : Bool := decide ((d1.getD i []).length ≠ (d1.getD 0 []).length) || decide (firstN (badW d1 i) (d1.getD i []).length < (d1.getD i []).length)

section
variable {d1 : List (List Int)} (hn : d1.length ≤ 1000) (hr : ∀ i, i < d1.length → (d1.getD i []).length ≤ 1000)
include hn hr

omit hn in
theorem chk_L1 {i : Nat} (hi : i < d1.length) : iter (least_Check_L1 d1 (i : Int)) (0 : Int) = some (if firstN (badW d1 i) (d1.getD i []).length < (d1.getD i []).length then .inr false else .inl ()) := by
  have hri := hr i hi
  refine first_loop (badW d1 i) false _ (fun k hk => ?_) ?_
  · simp only [least_Check_L1, Int.toNat_natCast]
    rw [if_pos (by simp only [decide_eq_true_eq]; omega), if_pos ⟨by omega, by omega⟩, wrap_i64 (by omega) (by omega)]
    by_cases q1 : (d1.getD i []).getD k 0 < 0
    · rw [if_pos (by simpa using q1), show badW d1 i k = true by unfold badW; rw [decide_eq_true q1]; rfl]; rfl
    · rw [if_neg (by simpa using q1), show badW d1 i k = decide ((d1.getD i []).getD k 0 ≥ (d1.length : Int)) by unfold badW; rw [decide_eq_false q1, Bool.false_or]]
      rfl
  · simp only [least_Check_L1, Int.toNat_natCast]
    rw [if_neg (by simp)]
omit hn in
theorem rchk_L1 {i : Nat} (hi : i < d1.length) : iter (stanzaref04_Check_L1 d1 (i : Int)) (0 : Int) = some (if firstN (badW d1 i) (d1.getD i []).length < (d1.getD i []).length then .inr false else .inl ()) := by
  have hri := hr i hi
  refine first_loop (badW d1 i) false _ (fun k hk => ?_) ?_
  · simp only [stanzaref04_Check_L1, Int.toNat_natCast]
    have hin : 0 ≤ (i : Int) ∧ (i : Int) < (d1.length : Int) := ⟨by omega, by omega⟩
    have hkn : 0 ≤ (k : Int) ∧ (k : Int) < ((d1.getD i []).length : Int) := ⟨by omega, by omega⟩
    simp only [if_pos hin, if_pos hkn]
    rw [if_pos (by simp only [decide_eq_true_eq]; omega), wrap_i64 (by omega) (by omega)]
    by_cases q1 : (d1.getD i []).getD k 0 < 0
    · rw [if_pos (by simpa using q1), show badW d1 i k = true by unfold badW; rw [decide_eq_true q1]; rfl]; rfl
    · rw [if_neg (by simpa using q1), show badW d1 i k = decide ((d1.getD i []).getD k 0 ≥ (d1.length : Int)) by unfold badW; rw [decide_eq_false q1, Bool.false_or]]
      rfl
  · simp only [stanzaref04_Check_L1, Int.toNat_natCast]
    rw [if_pos ⟨by omega, by omega⟩, if_neg (by simp)]
theorem chk_L2 : iter (least_Check_L2 d1) (0 : Int) = some (if firstN (badR d1) d1.length < d1.length then .inr false else .inl ()) := by
  refine first_loop (badR d1) false _ (fun i hi => ?_) ?_
  · have h1 := chk_L1 hr hi
    simp only [least_Check_L2, Int.toNat_natCast, h1]
    rw [if_pos (by simp only [decide_eq_true_eq]; omega), if_pos ⟨by omega, by omega⟩, if_pos ⟨by omega, by omega⟩]
    by_cases q1 : (d1.getD i []).length = (d1.getD 0 []).length
    · have e : (((d1.getD i []).length : Int) != ((d1.getD ((0 : Int).toNat) []).length : Int)) = false := by
        simp only [bne_eq_false_iff_eq, Int.toNat_zero]; omega
      rw [e, if_neg (by simp), Option.bind_some]
      by_cases q2 : firstN (badW d1 i) (d1.getD i []).length < (d1.getD i []).length
      · rw [show badR d1 i = true by unfold badR; rw [decide_eq_true q2, Bool.or_true], if_pos q2]
        rfl
      · rw [show badR d1 i = false by unfold badR; rw [decide_eq_false q2, decide_eq_false (not_not_intro q1)]; rfl, if_neg q2]
        simp only [Bool.false_eq_true, if_false]
        rw [wrap_i64 (by omega) (by omega)]; rfl
    · have e : (((d1.getD i []).length : Int) != ((d1.getD ((0 : Int).toNat) []).length : Int)) = true := by
        simp only [bne_iff_ne, ne_eq, Int.toNat_zero]; omega
      rw [e, if_pos rfl, show badR d1 i = true by unfold badR; rw [decide_eq_true q1, Bool.true_or], if_pos rfl]
  · simp only [least_Check_L2]
    rw [if_neg (by simp)]
theorem rchk_L2 : iter (stanzaref04_Check_L2 d1) (0 : Int) = some (if firstN (badR d1) d1.length < d1.length then .inr false else .inl ()) := by
  refine first_loop (badR d1) false _ (fun i hi => ?_) ?_
  · have h1 := rchk_L1 hr hi
    simp only [stanzaref04_Check_L2, Int.toNat_natCast, h1]
    rw [if_pos (by simp only [decide_eq_true_eq]; omega), if_pos ⟨by omega, by omega⟩, if_pos ⟨by omega, by omega⟩]
    by_cases q1 : (d1.getD i []).length = (d1.getD 0 []).length
    · have e : (((d1.getD i []).length : Int) != ((d1.getD ((0 : Int).toNat) []).length : Int)) = false := by
        simp only [bne_eq_false_iff_eq, Int.toNat_zero]; omega
      rw [e, if_neg (by simp), Option.bind_some]
      by_cases q2 : firstN (badW d1 i) (d1.getD i []).length < (d1.getD i []).length
      · rw [show badR d1 i = true by unfold badR; rw [decide_eq_true q2, Bool.or_true], if_pos q2]
        rfl
      · rw [show badR d1 i = false by unfold badR; rw [decide_eq_false q2, decide_eq_false (not_not_intro q1)]; rfl, if_neg q2]
        simp only [Bool.false_eq_true, if_false]
        rw [wrap_i64 (by omega) (by omega)]; rfl
    · have e : (((d1.getD i []).length : Int) != ((d1.getD ((0 : Int).toNat) []).length : Int)) = true := by
        simp only [bne_iff_ne, ne_eq, Int.toNat_zero]; omega
      rw [e, if_pos rfl, show badR d1 i = true by unfold badR; rw [decide_eq_true q1, Bool.true_or], if_pos rfl]
  · simp only [stanzaref04_Check_L2]
    rw [if_neg (by simp)]

/-- Both say the same; if so, it is an automaton. -/
theorem chk_both (d2 : List Int) (h32 : ∀ x ∈ d2, In32 x) : ∃ b, least_Check d1 d2 = some b ∧ stanzaref04_Check d1 d2 = some b ∧ (b = true → OkA d1 d2 d1.length (d1.getD 0 []).length) := by
  unfold least_Check stanzaref04_Check
  rw [chk_L2 hn hr, rchk_L2 hn hr]
  by_cases q0 : d1.length = 0
  · rw [if_pos (c := ((d1.length : Int) == 0) = true) (by simp only [beq_iff_eq]; omega), if_pos (c := decide ((d1.length : Int) < 1) = true) (by simp only [decide_eq_true_eq]; omega)]
    exact ⟨false, rfl, rfl, fun q => by cases q⟩
  rw [if_neg (c := ((d1.length : Int) == 0) = true) (by simp only [beq_iff_eq]; omega), if_neg (c := decide ((d1.length : Int) < 1) = true) (by simp only [decide_eq_true_eq]; omega)]
  simp only [Option.bind_some]
  by_cases q1 : d1.length = d2.length
  · have e1 : ((d1.length : Int) != (d2.length : Int)) = false := by simp [q1]
    have e2 : ((d2.length : Int) != (d1.length : Int)) = false := by simp [q1]
    simp only [e1, e2, Bool.false_eq_true, if_false]
    by_cases q2 : firstN (badR d1) d1.length < d1.length
    · rw [if_pos q2]
      exact ⟨false, rfl, rfl, fun q => by cases q⟩
    · rw [if_neg q2]
      refine ⟨true, rfl, rfl, fun _ => ?_⟩
      have hle := firstN_le (badR d1) d1.length
      have hgood : ∀ i, i < d1.length → badR d1 i = false := fun i hi => firstN_lt (badR d1) d1.length (by omega)
      have hrow : ∀ i, i < d1.length → (d1.getD i []).length = (d1.getD 0 []).length ∧ ∀ k, k < (d1.getD i []).length → badW d1 i k = false := fun i hi => by
        have := hgood i hi
        unfold badR at this
        simp only [Bool.or_eq_false_iff, decide_eq_false_iff_not, ne_eq, Decidable.not_not] at this
        have h3 := firstN_le (badW d1 i) (d1.getD i []).length
        exact ⟨this.1, fun k hk => firstN_lt (badW d1 i) (d1.getD i []).length (by omega)⟩
      exact { hn := rfl, ho := q1.symm, pos := by omega, small := hn, cs := hr 0 (by omega), row := fun s hs => (hrow s hs).1,
              way := fun s k hs hk => by
                have h3 := (hrow s hs).2 k (by rw [(hrow s hs).1]; exact hk)
                unfold badW at h3
                simp only [Bool.or_eq_false_iff, decide_eq_false_iff_not] at h3
                omega
              out := fun s hs => h32 _ (getD_mem' (by omega)) }
  · have e1 : ((d1.length : Int) != (d2.length : Int)) = true := by simp only [bne_iff_ne, ne_eq]; omega
    have e2 : ((d2.length : Int) != (d1.length : Int)) = true := by simp only [bne_iff_ne, ne_eq]; omega
    rw [e1, e2]
    exact ⟨false, rfl, rfl, fun q => by cases q⟩
end

theorem wf_in32 {d : List Int} (h : Wf (.slice (.int .u32)) d) : ∀ y ∈ d, In32 y := fun y hy => by
  obtain ⟨j, hj, rfl⟩ := List.getElem_of_mem hy
  have := h.2 j hj
  obtain ⟨h1, h2⟩ := this
  refine ⟨h1, ?_⟩
  have e : IntKind.u32.max = 4294967295 := by decide
  first
    | omega
    | (simp only [e] at h2; omega)
theorem leastChecks_true {d1 : List (List Int)} {d2 : List Int} (h32 : ∀ x ∈ d2, In32 x) : stanzalaw05_LeastChecks d1 d2 = some true := by
  unfold stanzalaw05_LeastChecks
  rw [awake, Option.bind_some, if_neg (by simp)]
  by_cases q0 : d1.length > 100
  · rw [if_pos (by simp only [decide_eq_true_eq]; omega)]
  rw [if_neg (by simp only [decide_eq_true_eq]; omega)]
  have hL := first_loop (f := stanzalaw05_LeastChecks_L1 d1) (fun i => decide ((d1.getD i []).length > 100)) true d1.length (fun k hk => by
    simp only [stanzalaw05_LeastChecks_L1, Int.toNat_natCast]
    rw [if_pos (by simp only [decide_eq_true_eq]; omega), if_pos ⟨by omega, by omega⟩, wrap_i64 (by omega) (by omega)]
    by_cases e : (d1.getD k []).length > 100
    · rw [if_pos (by simp only [decide_eq_true_eq]; omega), if_pos (decide_eq_true e)]
    · rw [if_neg (by simp only [decide_eq_true_eq]; omega), if_neg (by simpa using e)]
      rfl) (by
    simp only [stanzalaw05_LeastChecks_L1]
    rw [if_neg (by simp)])
  rw [hL]
  by_cases q1 : firstN (fun i => decide ((d1.getD i []).length > 100)) d1.length < d1.length
  · rw [if_pos q1]
    rfl
  rw [if_neg q1]
  have hle := firstN_le (fun i => decide ((d1.getD i []).length > 100)) d1.length
  have hrow : ∀ i, i < d1.length → (d1.getD i []).length ≤ 1000 := fun i hi => by
    have := firstN_lt (fun i => decide ((d1.getD i []).length > 100)) d1.length (j := i) (by omega)
    simp only [decide_eq_false_iff_not] at this
    omega
  obtain ⟨b, c1, c2, c3⟩ := chk_both (by omega) hrow d2 h32
  simp only [Option.bind_some, c2]
  cases b with
  | true =>
    have ok := c3 rfl
    obtain ⟨x, e1, e2⟩ := refleast_eq ok
    rw [e1, c1]
    simp only [Option.bind_some]
    rw [e2]
    simp only [Option.bind_some, same_auto (make_small ok e1), beq_self_eq_true, if_true, Bool.not_true, Bool.false_eq_true, if_false]
  | false =>
    have hm : least_Make d1 d2 = some ((([] : List (List Int)), ([] : List Int)), (2 : Int)) := by
      unfold least_Make
      rw [c1]
      rfl
    rw [hm, c1]
    rfl

abbrev leastChecks_Ts : List Ty := [(.prod (.slice (.slice (.int .i64))) (.slice (.int .u32)))]
theorem leastChecks_all (x : Tup leastChecks_Ts) (hx : WfT leastChecks_Ts x) : stanzalaw05_LeastChecks x.1.1 x.1.2 = some true :=
  leastChecks_true (wf_in32 hx.1.2)
abbrev leastMakes_Ts : List Ty := [.slice (.int .u32), .slice (.int .i64), .int .u8]
theorem leastMakes_all (x : Tup leastMakes_Ts) (hx : WfT leastMakes_Ts x) : stanzalaw05_LeastMakes x.1 x.2.1 x.2.2.1 = some true :=
  leastMakes_true (wf_nonneg hx.1) hx.2.2.1 (lenOk hx.2.1.1)
end Go.Proofs.Ytnnbofkcfooljaa.T
