/- RulesMade: what is made of a plan has its classes, joins, treats and rules. -/
import Derived.Test.YtjfjigknkhgkdaaTv03vm
import Derived.Test.YtjfjigknkhgkdaaTvT03xRulesMade
namespace Go.Proofs.Ytjfjigknkhgkdaa.T
open Go Go.Tv Go.Proofs
theorem lenD3 : lenD 3 = 99 := rfl
theorem exOT_len' {n : Nat} (h6 : n ≤ 6) (l : List Int) : (exOT n (exO l)).length ≤ 99 := by
  unfold exO
  split
  · exact Nat.zero_le _
  · exact Nat.le_trans (exT_len h6 _) (Nat.le_trans (lenD_le (rdE_D 3 _ _)) (Nat.le_of_eq lenD3))
theorem ruT_len' {n : Nat} (h6 : n ≤ 6) (b : List UInt8) (l : List PR) (k : Nat) : (ruT b n l k).length ≤ b.length + 208 * k := by
  induction k with
  | zero => exact Nat.le_refl _
  | succ k ih =>
    have h1 := wordT_len (l.getD k pr0).1
    have h2 := exOT_len' h6 (l.getD k pr0).2.1
    have h3 := exOT_len' h6 (l.getD k pr0).2.2
    simp only [ruT, List.length_append, List.length_cons, List.length_nil]; omega
theorem planT_len' (c j a : Int) (tr : List Int) (l : List PR) : (planT c j a tr l).length ≤ 2300 := by
  have h6 := cntP_le c
  have h1 := joinT_len h6 j a
  have h2 := trT_len (joinT (cntP c) j a) (cntP c) tr (min tr.length (cntP c))
  have h3 := ruT_len' h6 (trT (joinT (cntP c) j a) (cntP c) tr (min tr.length (cntP c))) l (min l.length 10)
  unfold planT
  have h4 : min l.length 10 ≤ 10 := Nat.min_le_right _ _
  have h5 : min tr.length (cntP c) ≤ cntP c := Nat.min_le_right _ _
  omega
theorem plan_Parse {c j a : Int} {tr : List Int} {l : List PR} (h : Pl c j a tr l) : rules_Parse (planT c j a tr l) = some (planV c j a tr l, 0, 0) := by
  rw [parseP, plan_parse h (Nat.le_trans (planT_len' c j a tr l) (by decide)) (plan_T h)]
  rfl
theorem join_ok : ((List.range 7).all fun n => (List.range 256).all fun j => bitsOf .or .u32 0 (jnV n (j : Int)) == bitsOf .and .u32 (IntKind.u32.wrap (j : Int)) (wholeI n)) = true := by kernel_rfl
theorem join_at {n : Nat} (h6 : n ≤ 6) {j : Int} (h : 0 ≤ j ∧ j < 256) : bitsOf .or .u32 0 (jnV n j) = bitsOf .and .u32 (IntKind.u32.wrap j) (wholeI n) := by
  obtain ⟨m, rfl⟩ := Int.eq_ofNat_of_zero_le h.1
  have a := List.all_eq_true.mp join_ok n (List.mem_range.mpr (by omega))
  have b := List.all_eq_true.mp a m (List.mem_range.mpr (by have := h.2; omega))
  exact beq_iff_eq.mp b
theorem t0P_get {n k : Nat} (h : k < n) : (t0P n).getD k 0 = (k : Int) := by
  simp [t0P, h]
theorem trV_get (n : Nat) (tr : List Int) : ∀ (k i : Nat), i < n → (trV n tr k).getD i 0 = if i < k then (((tr.getD i 0).toNat % n : Nat) : Int) else (i : Int)
  | 0, i, hi => by rw [if_neg (by omega)]; exact t0P_get hi
  | k + 1, i, hi => by
    have ih := trV_get n tr k i hi
    have hl := trV_len n tr k
    simp only [trV]
    by_cases h : i = k
    · subst h
      rw [if_pos (by omega), List.getD_eq_getElem?_getD, List.getElem?_set_self (by omega)]
      rfl
    · rw [List.getD_eq_getElem?_getD, List.getElem?_set_ne (by omega), ← List.getD_eq_getElem?_getD, ih]
      by_cases h2 : i < k
      · rw [if_pos h2, if_pos (by omega)]
      · rw [if_neg h2, if_neg (by omega)]
theorem ruV_get (n : Nat) (l : List PR) : ∀ (k i : Nat), i < k → (ruV n l k).getD i ((0 : Int), ((Tree.node 0 0 []), (Tree.node 0 0 []))) = (Int.tmod (l.getD i pr0).1 3, exOV n (wholeI n) (setsP n) (exO (l.getD i pr0).2.1), exOV n (wholeI n) (setsP n) (exO (l.getD i pr0).2.2))
  | 0, i, hi => by omega
  | k + 1, i, hi => by
    have hl := ruV_len n l k
    simp only [ruV]
    rw [List.getD_eq_getElem?_getD]
    by_cases h : i = k
    · subst h
      rw [List.getElem?_append_right (by omega), hl, Nat.sub_self]
      rfl
    · rw [List.getElem?_append_left (by omega), ← List.getD_eq_getElem?_getD]
      exact ruV_get n l k i (by omega)
theorem exO_none (l : List Int) : exO l = none ↔ l.length = 0 := by
  unfold exO
  split <;> simp_all
theorem op_eq (n : Nat) (wh : Int) (sets : Sets) (l : List Int) : (((l.length : Int) == 0) == ((exOV n wh sets (exO l)).op == 0)) = true := by
  have h := exOV_op (n := n) (wh := wh) (sets := sets) (exO l)
  rw [exO_none] at h
  by_cases hl : l.length = 0
  · have h1 := h.mpr hl
    rw [h1, hl]; rfl
  · have h1 : (exOV n wh sets (exO l)).op ≠ 0 := fun hh => hl (h.mp hh)
    rw [beq_eq_false_iff_ne.mpr h1, beq_eq_false_iff_ne.mpr (show (l.length : Int) ≠ 0 by omega)]
    rfl
theorem made {c j a : Int} {tr : List Int} {l : List PR} (h : Pl c j a tr l) : lq_RulesMade c j a tr l = some true := by
  have h1 := cntP_pos c
  have h6 := cntP_le c
  have hcl : (clsP (cntP c)).length = cntP c := (name_at h1 h6 0).2.2
  have htl := trV_len (cntP c) tr (min tr.length (cntP c))
  have hrl := ruV_len (cntP c) l (min l.length 10)
  unfold lq_RulesMade
  rw [awake03]
  simp only [Option.bind_some, Bool.not_true, Bool.false_eq_true, if_false]
  rw [Text_eq h]
  simp only [Option.bind_some]
  rw [plan_Parse h]
  simp only [Option.bind_some]
  rw [if_neg (by decide), count_eq h]
  simp only [Option.bind_some]
  rw [if_pos (by omega)]
  have cond : (if (((planV c j a tr l).1.length : Int) != (cntP c : Int)) = true then some (true)
      else (if (((planV c j a tr l).2.2.2.1.length : Int) != (cntP c : Int)) = true then some (true)
      else (if (((planV c j a tr l).2.2.2.2.length : Int) != (min (l.length : Int) (10 : Int))) = true then some (true)
      else (if (j != (0 : Int)) = true then (if ((planV c j a tr l).2.1 != (bitsOf .and .u32 (IntKind.u32.wrap j) (IntKind.u32.wrap ((IntKind.u32.wrap ((1 : Int) * 2 ^ (min (cntP c : Int).toNat IntKind.u32.bits))) - (1 : Int))))) = true then some (true)
      else some (((planV c j a tr l).2.2.1 != (bitsOf .and .u32 (IntKind.u32.wrap a) (IntKind.u32.wrap ((IntKind.u32.wrap ((1 : Int) * 2 ^ (min (cntP c : Int).toNat IntKind.u32.bits))) - (1 : Int)))))))
      else some (false))))) = some false := by
    have e1 : (planV c j a tr l).1.length = cntP c := hcl
    have e2 : (planV c j a tr l).2.2.2.1.length = cntP c := htl
    have e3 : (((planV c j a tr l).2.2.2.2.length : Nat) : Int) = min (l.length : Int) 10 := by
      show (((ruV (cntP c) l (min l.length 10)).length : Nat) : Int) = _
      rw [hrl]; omega
    rw [if_neg (by rw [e1]; simp), if_neg (by rw [e2]; simp), if_neg (by rw [e3]; simp)]
    by_cases hj : j = 0
    · rw [if_neg (by simp [hj])]
    · have e4 : (planV c j a tr l).2.1 = bitsOf .and .u32 (IntKind.u32.wrap j) (wholeI (cntP c)) := by
        show (if j = 0 then 0 else _) = _
        rw [if_neg hj, join_at h6 h.hj]
      have e5 : (planV c j a tr l).2.2.1 = bitsOf .and .u32 (IntKind.u32.wrap a) (wholeI (cntP c)) := by
        show (if j = 0 then 0 else _) = _
        rw [if_neg hj, join_at h6 h.ha]
      have ew : IntKind.u32.wrap ((IntKind.u32.wrap ((1 : Int) * 2 ^ (min (cntP c : Int).toNat IntKind.u32.bits))) - (1 : Int)) = wholeI (cntP c) := rfl
      rw [if_pos (by simpa using hj), ew, if_neg (by rw [e4]; simp), e5]
      simp
  rw [cond]
  simp only [Option.bind_some, Bool.false_eq_true, if_false]
  have i1 : iter (lq_RulesMade_L1 tr (planV c j a tr l) (cntP c : Int)) ((0 : Nat) : Int) = some (.inl ()) := by
    refine iter_count (fun k : Nat => (k : Int)) (cntP c) (fun k hk => ?_) ?_
    · have hg := trV_get (cntP c) tr (min tr.length (cntP c)) k hk
      have hv : (((planV c j a tr l).2.2.2.1.length : Nat) : Int) = (cntP c : Int) := by rw [show (planV c j a tr l).2.2.2.1.length = cntP c from htl]
      unfold lq_RulesMade_L1
      simp only [hv]
      rw [if_pos (by simp; omega), if_pos ⟨by omega, by omega⟩, Int.toNat_natCast]
      have hg' : (planV c j a tr l).2.2.2.1.getD k 0 = if k < min tr.length (cntP c) then (((tr.getD k 0).toNat % cntP c : Nat) : Int) else (k : Int) := hg
      rw [hg']
      by_cases hkt : k < tr.length
      · have hx := h.ht _ (getD_mem' (d := 0) hkt)
        rw [if_pos (by simp; omega), if_pos ⟨by omega, by omega⟩, if_pos (by omega), if_pos (show k < min tr.length (cntP c) by omega)]
        obtain ⟨v, hv2⟩ := Int.eq_ofNat_of_zero_le hx.1
        simp only [Option.bind_some]
        rw [wrap_i64 (x := tr.getD k 0) (by omega) (by omega), hv2, wrap_i64 (by omega) (by omega)]
        have et : Int.tmod ((v : Nat) : Int) (cntP c : Int) = ((v % cntP c : Nat) : Int) := rfl
        rw [et, Int.toNat_natCast, if_neg (by simp)]
        rfl
      · rw [if_neg (by simp; omega), if_neg (show ¬ k < min tr.length (cntP c) by omega)]
        simp only [Option.bind_some]
        rw [if_neg (by simp), wrap_i64 (by omega) (by omega)]
        rfl
    · have hv : (((planV c j a tr l).2.2.2.1.length : Nat) : Int) = (cntP c : Int) := by rw [show (planV c j a tr l).2.2.2.1.length = cntP c from htl]
      unfold lq_RulesMade_L1
      simp only [hv]
      rw [if_neg (by simp)]
  rw [show iter (lq_RulesMade_L1 tr (planV c j a tr l) (cntP c : Int)) 0 = _ from i1]
  simp only [Option.bind_some]
  have i2 : iter (lq_RulesMade_L2 l (planV c j a tr l)) ((0 : Nat) : Int) = some (.inl ()) := by
    refine iter_count (fun k : Nat => (k : Int)) (min l.length 10) (fun k hk => ?_) ?_
    · have hg := ruV_get (cntP c) l (min l.length 10) k hk
      have hg' : (planV c j a tr l).2.2.2.2.getD k ((0 : Int), ((Tree.node 0 0 []), (Tree.node 0 0 []))) = _ := hg
      have hv : (((planV c j a tr l).2.2.2.2.length : Nat) : Int) = ((min l.length 10 : Nat) : Int) := by rw [show (planV c j a tr l).2.2.2.2.length = min l.length 10 from hrl]
      have c2 : 0 ≤ (k : Int) ∧ (k : Int) < (l.length : Int) := ⟨by omega, by omega⟩
      unfold lq_RulesMade_L2
      simp only [hv]
      rw [if_pos (by simp only [decide_eq_true_eq]; omega), if_pos ⟨by omega, by omega⟩, Int.toNat_natCast, hg', if_pos c2, if_pos (by decide), if_neg (by simp), if_pos c2]
      have o1 := op_eq (cntP c) (wholeI (cntP c)) (setsP (cntP c)) (l.getD k pr0).2.1
      have o2 := op_eq (cntP c) (wholeI (cntP c)) (setsP (cntP c)) (l.getD k pr0).2.2
      rw [o1, if_neg (by decide), if_pos c2, o2, wrap_i64 (by omega) (by omega)]
      rfl
    · have hv : (((planV c j a tr l).2.2.2.2.length : Nat) : Int) = ((min l.length 10 : Nat) : Int) := by rw [show (planV c j a tr l).2.2.2.2.length = min l.length 10 from hrl]
      unfold lq_RulesMade_L2
      simp only [hv]
      rw [if_neg (by simp)]
  rw [show iter (lq_RulesMade_L2 l (planV c j a tr l)) 0 = _ from i2]
  rfl
end Go.Proofs.Ytjfjigknkhgkdaa.T
