/- Patterns: a word as letters and values. -/
import Derived.Test.YtcdmdcfpjeomfaaTv07b
namespace Go.Proofs.Ytcdmdcfpjeomfaa.T
open Go Go.Tv Go.Proofs

abbrev Sgn : Type := Int × Int × Int
def zS : Sgn := ((0 : Int), ((0 : Int), (0 : Int)))
abbrev Pat : Type := List Int × List Int
def zP : Pat := (([] : List Int), ([] : List Int))

/-! ### equal lists -/
theorem eq_step {a b : List Int} (he : a.length = b.length) {r : Bool} (hr : r = (a == b)) (f : Int → Option (Int ⊕ (Unit ⊕ Bool)))
    (hf : ∀ k : Nat, k < a.length → f (k : Int) = if (a.getD k 0 != b.getD k 0) = true then some (Sum.inr (Sum.inr false)) else some (Sum.inl ((k + 1 : Nat) : Int))) (he2 : f (a.length : Int) = some (Sum.inr (Sum.inl ()))) :
    (iter f (0 : Int)).bind (fun (x : Unit ⊕ Bool) => match x with | .inl _ => some true | .inr y => some y) = some r := by
  subst hr
  let k := firstN (fun j => a.getD j 0 != b.getD j 0) a.length
  have hk : k = firstN (fun j => a.getD j 0 != b.getD j 0) a.length := rfl
  have hle : k ≤ a.length := firstN_le _ _
  have hlt : ∀ j, j < k → a.getD j 0 = b.getD j 0 := fun j hj => by
    have := firstN_lt (fun j => a.getD j 0 != b.getD j 0) a.length hj
    simpa only [bne_eq_false_iff_eq] using this
  by_cases q : k < a.length
  · have hat := firstN_at (fun j => a.getD j 0 != b.getD j 0) a.length q
    have hi := iter_count (body := f) (fun j => (j : Int)) k (r := Sum.inr false) (fun j hj => by
      rw [hf j (by omega), if_neg (by rw [hlt j hj]; simp)]) (by rw [hf k q, if_pos hat])
    have hi' : iter f (0 : Int) = some (Sum.inr false) := hi
    rw [hi']
    have hne : a ≠ b := fun e => by subst e; simp at hat
    have : (a == b) = false := by simpa using hne
    rw [this]
    rfl
  · have hi := iter_count (body := f) (fun j => (j : Int)) a.length (r := Sum.inl ()) (fun j hj => by
      rw [hf j hj, if_neg (by rw [hlt j (by omega)]; simp)]) he2
    have hi' : iter f (0 : Int) = some (Sum.inl ()) := hi
    rw [hi']
    have e : a = b := List.ext_getElem he (fun j h1 h2 => by
      have := hlt j (by omega)
      rwa [getD_lt h1, getD_lt h2] at this)
    subst e
    simp

theorem equal_eq {a b : List Int} (ha : a.length ≤ 1000000) : slices_Equal_int32_int32 a b = some (a == b) := by
  unfold slices_Equal_int32_int32
  by_cases he : a.length = b.length
  · rw [if_neg (by rw [he]; simp)]
    exact eq_step he rfl _ (fun k hk => by
      simp only [slices_Equal_int32_int32_L1, Int.toNat_natCast]
      rw [if_pos (by simp only [decide_eq_true_eq]; omega), if_pos ⟨by omega, by omega⟩, if_pos ⟨by omega, by omega⟩, wrap_i64 (by omega) (by omega)]
      rfl) (by
      simp only [slices_Equal_int32_int32_L1]
      rw [if_neg (by simp)])
  · have : (a == b) = false := by
      have : a ≠ b := fun e => he (by rw [e])
      simpa using this
    rw [if_pos (by simp only [bne_iff_ne, ne_eq]; omega), this]
theorem same_eq {a b : List Int} (ha : a.length ≤ 1000000) : stanzaref07_Same a b = some (a == b) := by
  unfold stanzaref07_Same
  by_cases he : a.length = b.length
  · rw [if_neg (by rw [he]; simp)]
    exact eq_step he rfl _ (fun k hk => by
      simp only [stanzaref07_Same_L1, Int.toNat_natCast]
      rw [if_pos (by simp only [decide_eq_true_eq]; omega), if_pos ⟨by omega, by omega⟩, if_pos ⟨by omega, by omega⟩, wrap_i64 (by omega) (by omega)]
      rfl) (by
      simp only [stanzaref07_Same_L1]
      rw [if_neg (by simp)])
  · have : (a == b) = false := by
      have : a ≠ b := fun e => he (by rw [e])
      simpa using this
    rw [if_pos (by simp only [bne_iff_ne, ne_eq]; omega), this]

/-! ### the first one, the hyphens -/
def hasH (rs : List Int) : Bool := rs.any (· == 45)
theorem any_firstN {α : Type} (p : α → Bool) (d : α) : ∀ (l : List α), l.any p = decide (firstN (fun j => p (l.getD j d)) l.length < l.length)
  | [] => rfl
  | x :: l => by
    simp only [List.any_cons, List.length_cons, firstN, List.getD_cons_zero]
    rw [any_firstN p d l]
    by_cases h : p x = true
    · rw [h]; simp
    · have : p x = false := by simpa using h
      rw [this]
      simp only [Bool.false_or, Bool.false_eq_true, if_false, List.getD_cons_succ, decide_eq_decide]
      omega

theorem hyphened_eq {W : List Sgn} (hl : W.length ≤ 1000000) : pats_hyphened W = some (hasH (W.map (·.1))) := by
  have h1 : api_Scalar_v1 W = some (if firstN (fun j => (W.getD j zS).1 == 45) W.length < W.length then ((firstN (fun j => (W.getD j zS).1 == 45) W.length : Nat) : Int) else -1) := by
    unfold api_Scalar_v1
    have hle := firstN_le (fun j => (W.getD j zS).1 == 45) W.length
    have hlt : ∀ j, j < firstN (fun j => (W.getD j zS).1 == 45) W.length → ((W.getD j zS).1 == 45) = false := fun j hj => firstN_lt _ W.length hj
    have hat := firstN_at (fun j => (W.getD j zS).1 == 45) W.length
    generalize firstN (fun j => (W.getD j zS).1 == 45) W.length = k at *
    unfold zS at hlt hat
    have hi := iter_count (body := api_Scalar_v1_L1 W) (fun j => (j : Int)) k (r := if k < W.length then Sum.inr (k : Int) else Sum.inl ()) (fun j hj => by
      simp only [api_Scalar_v1_L1, Int.toNat_natCast, pats_hyphened_1, hlt j hj]
      rw [if_pos (by simp only [decide_eq_true_eq]; omega), if_pos ⟨by omega, by omega⟩]
      simp only [Option.bind_some, Bool.false_eq_true, if_false]
      rw [wrap_i64 (by omega) (by omega)]
      rfl) (by
      by_cases q : k < W.length
      · simp only [api_Scalar_v1_L1, Int.toNat_natCast, pats_hyphened_1, hat q]
        rw [if_pos (by simp only [decide_eq_true_eq]; omega), if_pos ⟨by omega, by omega⟩, if_pos q]
        rfl
      · simp only [api_Scalar_v1_L1]
        rw [if_neg (by simp only [decide_eq_true_eq]; omega), if_neg q])
    have hi' : iter (api_Scalar_v1_L1 W) (0 : Int) = some (if k < W.length then Sum.inr (k : Int) else Sum.inl ()) := hi
    rw [hi']
    by_cases q : k < W.length
    · rw [if_pos q, if_pos q]; rfl
    · rw [if_neg q, if_neg q]; rfl
  unfold pats_hyphened api_Scalar
  rw [h1]
  simp only [Option.bind_some]
  unfold hasH
  rw [List.any_map, any_firstN _ zS]
  have e : ((fun (x : Int) => x == 45) ∘ fun (x : Sgn) => x.1) = fun (x : Sgn) => x.1 == 45 := rfl
  rw [e]
  by_cases q : firstN (fun j => (W.getD j zS).1 == 45) W.length < W.length
  · rw [if_pos q, decide_eq_true q]; congr 1
  · rw [if_neg q, decide_eq_false q]; rfl

/-! ### a word -/
def isDig (c : Int) : Prop := 48 ≤ c ∧ c ≤ 57
instance (c : Int) : Decidable (isDig c) := by unfold isDig; exact inferInstance
/-- Letters and values of what is left of a word: v: the value ahead of the next letter; st: was it told. -/
def patS (told : Bool) (N : Nat) : List Int → Nat → List Int → List Int → Int → Bool → Nat → Option Pat
  | [], _, L, V, v, _, plain => if 0 < plain ∧ L.length ≤ 24 then some (L, V ++ [v]) else none
  | c :: r, i, L, V, v, st, plain =>
    if c = 65533 then none
    else if c = 45 ∨ isDig c then
      if st = true ∨ told ≠ decide (c = 45) ∨ (told = true ∧ (L.length = 0 ∨ i + 1 = N)) then none
      else patS told N r (i + 1) L V (if told = true then 1 else c - 48) true plain
    else if c = 46 then
      if told = true ∨ (i ≠ 0 ∧ i + 1 ≠ N) then none else patS told N r (i + 1) (L ++ [c]) (V ++ [v]) 0 false plain
    else patS told N r (i + 1) (L ++ [c]) (V ++ [v]) 0 false (plain + 1)
/-- A word's letters and values. -/
def patR (rs : List Int) : Option Pat := patS (hasH rs) rs.length rs 0 [] [] 0 false 0

def finO : (List Int × List Int × Int) ⊕ (Pat × Bool) → Option Pat
  | .inl (l, v, k) => if 0 < k ∧ l.length ≤ 24 then some (l, v) else none
  | .inr (p, b) => if b = true then some p else none

theorem set_last {V : List Int} {v w : Int} {L : List Int} (h : V.length = L.length) : (V ++ [v]).set (L.length : Int).toNat w = V ++ [w] := by
  rw [Int.toNat_natCast, List.set_append_right _ _ (by omega), h, Nat.sub_self]; rfl

theorem one_loop {W : List Sgn} (hl : W.length ≤ 1000000) (told : Bool) : ∀ (m i : Nat) (L V : List Int) (v : Int) (st : Bool) (plain : Nat), i + m = W.length → V.length = L.length → L.length ≤ i → plain ≤ i →
    ∃ r, iter (pats_one_L1 W told) (L, V ++ [v], st, (plain : Int), (i : Int)) = some r ∧ finO r = patS told W.length ((W.drop i).map (·.1)) i L V v st plain
  | 0, i, L, V, v, st, plain, hi, hv, hL, hp => by
    refine ⟨.inl (L, V ++ [v], (plain : Int)), ?_, ?_⟩
    · rw [iter_eq]
      simp only [pats_one_L1]
      rw [if_neg (by simp only [decide_eq_true_eq]; omega)]
    · rw [List.drop_eq_nil_of_le (by omega)]
      simp only [finO, List.map_nil, patS]
      by_cases q : 0 < plain ∧ L.length ≤ 24
      · rw [if_pos q, if_pos ⟨by omega, q.2⟩]
      · rw [if_neg q, if_neg (by omega)]
  | m + 1, i, L, V, v, st, plain, hi, hv, hL, hp => by
    have ih := one_loop hl told m (i + 1)
    have hil : i < W.length := by omega
    rw [drop_cons' (d := zS) hil, List.map_cons]
    have e1 : IntKind.i64.wrap ((i : Int) + 1) = ((i + 1 : Nat) : Int) := by rw [wrap_i64 (by omega) (by omega)]; omega
    have e2 : IntKind.i64.wrap ((W.length : Int) - 1) = (W.length : Int) - 1 := wrap_i64 (by omega) (by omega)
    have e3 : IntKind.i64.wrap ((plain : Int) + 1) = ((plain + 1 : Nat) : Int) := by rw [wrap_i64 (by omega) (by omega)]; omega
    refine iter_case ?_
    simp only [pats_one_L1, Int.toNat_natCast, e1, e2, e3]
    unfold zS
    obtain ⟨c, hc⟩ : ∃ c, (W.getD i ((0 : Int), ((0 : Int), (0 : Int)))).1 = c := ⟨_, rfl⟩
    simp only [hc]
    have hvl : (V ++ [v]).length = L.length + 1 := by simp [hv]
    rw [if_pos (by simp only [decide_eq_true_eq]; omega), if_pos ⟨by omega, by omega⟩]
    simp only [patS]
    by_cases c0 : c = 65533
    · rw [if_pos (by simpa using c0), if_pos c0]
      exact ⟨_, rfl, rfl⟩
    rw [if_neg (by simpa using c0), if_neg c0]
    have kdig : (if (c == 45) = true then some true else (if decide (c ≥ 48) = true then some (decide (c ≤ 57)) else some false)) = some (decide (c = 45 ∨ isDig c)) := by
      by_cases a1 : c = 45
      · rw [if_pos (by simpa using a1), decide_eq_true (.inl a1)]
      rw [if_neg (by simpa using a1)]
      by_cases a2 : c ≥ 48
      · rw [if_pos (by simpa using a2)]; congr 1; rw [decide_eq_decide]; unfold isDig; omega
      · rw [if_neg (by simpa using a2), decide_eq_false]; unfold isDig; omega
    rw [kdig, Option.bind_some]
    by_cases c1 : c = 45 ∨ isDig c
    · rw [decide_eq_true c1, if_pos rfl, if_pos c1]
      have kbad : (if st = true then some true else (if (!(told == (c == 45))) = true then some true else (if told = true then (if ((L.length : Int) == 0) = true then some true else some ((i : Int) == (W.length : Int) - 1)) else some false))) =
          some (decide (st = true ∨ told ≠ decide (c = 45) ∨ (told = true ∧ (L.length = 0 ∨ i + 1 = W.length)))) := by
        have ed : (c == 45) = decide (c = 45) := by by_cases a : c = 45 <;> simp [a]
        cases st with
        | true => simp
        | false =>
          rw [if_neg (by simp), ed]
          by_cases a1 : told = decide (c = 45)
          · rw [if_neg (by simp [← a1])]
            cases told with
            | false => simp [← a1]
            | true =>
              rw [if_pos rfl]
              by_cases a2 : L.length = 0
              · rw [if_pos (by simpa using a2), decide_eq_true (.inr (.inr ⟨rfl, .inl a2⟩))]
              · rw [if_neg (by simpa using a2)]
                congr 1
                by_cases a3 : i + 1 = W.length
                · rw [decide_eq_true (.inr (.inr ⟨rfl, .inr a3⟩))]; simp only [beq_iff_eq]; omega
                · rw [decide_eq_false (by rintro (q | q | ⟨_, q | q⟩); cases q; exact q a1; exact a2 q; exact a3 q)]
                  simp only [beq_eq_false_iff_ne, ne_eq]; omega
          · have : (!(told == decide (c = 45))) = true := by
              cases told <;> cases hd : decide (c = 45) <;> simp_all
            rw [if_pos this, decide_eq_true (.inr (.inl a1))]
      rw [kbad]
      simp only [Option.bind_some]
      by_cases c2 : st = true ∨ told ≠ decide (c = 45) ∨ (told = true ∧ (L.length = 0 ∨ i + 1 = W.length))
      · rw [decide_eq_true c2, if_pos rfl, if_pos c2]
        exact ⟨_, rfl, rfl⟩
      · rw [decide_eq_false c2, if_neg (by simp), if_neg c2, if_pos ⟨by omega, by omega⟩, if_pos (by omega)]
        have hs1 : ∀ w : Int, (V ++ [v]).set (L.length : Int).toNat w = V ++ [w] := fun w => set_last hv
        have hs2 : ∀ u w : Int, (V ++ [u]).set (L.length : Int).toNat w = V ++ [w] := fun u w => set_last hv
        simp only [Int.toNat_natCast] at hs1 hs2
        have hvl2 : ∀ w : Int, (V ++ [w]).length = L.length + 1 := fun w => by simp [hv]
        simp only [hs1, hs2, hvl2]
        cases told with
        | true =>
          rw [if_neg (by simp)]
          simp only [Option.bind_some, if_true]
          exact ⟨_, rfl, ih L V 1 true plain (by omega) hv (by omega) (by omega)⟩
        | false =>
          have hd : isDig c := by
            rcases c1 with q | q
            · exact absurd (.inr (.inl (by simp [q]))) c2
            · exact q
          unfold isDig at hd
          rw [if_pos (by rfl), if_pos ⟨by omega, by omega⟩, if_pos (by omega)]
          simp only [Option.bind_some, Bool.false_eq_true, if_false]
          rw [wrap_i32 (by omega) (by omega), wrap_u8 (by omega) (by omega)]
          exact ⟨_, rfl, ih L V (c - 48) true plain (by omega) hv (by omega) (by omega)⟩
    · rw [decide_eq_false c1, if_neg (by simp), if_neg c1]
      have hg1 : ∀ x : Int, (L.length + ([x] : List Int).length) * 4 ≤ 140737488355328 ∧ L.length + ([x] : List Int).length ≤ 9223372036854775807 := fun x => ⟨by simp only [List.length_cons, List.length_nil]; omega, by simp only [List.length_cons, List.length_nil]; omega⟩
      have hg2 : ((V ++ [v]).length + ([(0 : Int)] : List Int).length) * 1 ≤ 140737488355328 ∧ (V ++ [v]).length + ([(0 : Int)] : List Int).length ≤ 9223372036854775807 := ⟨by rw [hvl]; simp only [List.length_cons, List.length_nil]; omega, by rw [hvl]; simp only [List.length_cons, List.length_nil]; omega⟩
      by_cases c2 : c = 46
      · rw [if_pos (by simpa using c2), if_pos c2]
        have kdot : (if told = true then some true else (if (!((i : Int) == 0)) = true then some (!((i : Int) == (W.length : Int) - 1)) else some false)) = some (decide (told = true ∨ (i ≠ 0 ∧ i + 1 ≠ W.length))) := by
          cases told with
          | true => simp
          | false =>
            rw [if_neg (by simp)]
            by_cases a1 : i = 0
            · rw [if_neg (by simp [a1]), decide_eq_false (by rintro (q | q); cases q; exact q.1 a1)]
            · rw [if_pos (by simp [a1])]
              congr 1
              by_cases a2 : i + 1 = W.length
              · rw [decide_eq_false (by rintro (q | q); cases q; exact q.2 a2)]; simp only [Bool.not_eq_false', beq_iff_eq]; omega
              · rw [decide_eq_true (.inr ⟨a1, a2⟩)]; simp only [Bool.not_eq_true', beq_eq_false_iff_ne, ne_eq]; omega
        rw [kdot]
        simp only [Option.bind_some]
        by_cases c3 : told = true ∨ (i ≠ 0 ∧ i + 1 ≠ W.length)
        · rw [decide_eq_true c3, if_pos rfl, if_pos c3]
          exact ⟨_, rfl, rfl⟩
        · rw [decide_eq_false c3, if_neg (by simp), if_neg c3, if_pos (hg1 46), if_pos hg2]
          simp only [Option.bind_some]
          subst c2
          exact ⟨_, rfl, ih (L ++ [46]) (V ++ [v]) 0 false plain (by omega) (by simp [hv]) (by simp only [List.length_append, List.length_cons, List.length_nil]; omega) (by omega)⟩
      · rw [if_neg (by simpa using c2), if_neg c2, if_pos (hg1 c), if_pos hg2]
        simp only [Option.bind_some]
        exact ⟨_, rfl, ih (L ++ [c]) (V ++ [v]) 0 false (plain + 1) (by omega) (by simp [hv]) (by simp only [List.length_append, List.length_cons, List.length_nil]; omega) (by omega)⟩

/-- The program's. -/
theorem one_eq {W : List Sgn} (hl : W.length ≤ 1000000) : ∃ p b, pats_one W = some (p, b) ∧ (if b = true then some p else none) = patR (W.map (·.1)) := by
  obtain ⟨r, h1, h2⟩ := one_loop hl (hasH (W.map (·.1))) W.length 0 [] [] 0 false 0 (by omega) rfl (Nat.le_refl _) (Nat.le_refl _)
  unfold pats_one
  rw [hyphened_eq hl]
  simp only [Option.bind_some]
  have h1' : iter (pats_one_L1 W (hasH (W.map (·.1)))) (([] : List Int), ([(0 : Int)] : List Int), false, (0 : Int), (0 : Int)) = some r := h1
  rw [h1']
  simp only [List.drop_zero] at h2
  have hR : patR (W.map (·.1)) = finO r := by unfold patR; rw [h2, List.length_map]
  rw [hR]
  simp only [Option.bind_some]
  match r with
  | .inr (p, b) => exact ⟨p, b, rfl, rfl⟩
  | .inl (l, v, k) =>
    simp only [finO]
    by_cases q1 : 0 < k
    · rw [if_pos (by simpa using q1)]
      refine ⟨_, _, rfl, ?_⟩
      by_cases q2 : l.length ≤ 24
      · rw [if_pos (by simp only [decide_eq_true_eq]; omega), if_pos ⟨q1, q2⟩]
      · rw [if_neg (by simp only [decide_eq_true_eq]; omega), if_neg (by omega)]
    · rw [if_neg (by simpa using q1)]
      refine ⟨_, _, rfl, ?_⟩
      rw [if_neg (by simp), if_neg (by omega)]
end Go.Proofs.Ytcdmdcfpjeomfaa.T
