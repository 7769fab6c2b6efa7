/- A plan's rules as a text: all of it. -/
import Derived.Test.YtjfjigknkhgkdaaTv03q
namespace Go.Proofs.Ytjfjigknkhgkdaa.T
open Go Go.Tv Go.Proofs
abbrev PR := Int × List Int × List Int
abbrev pr0 : PR := ((0 : Int), (([] : List Int), ([] : List Int)))
def wordT (d : Int) : List UInt8 := ([([107, 101, 101, 112, 32] : List UInt8), ([109, 97, 121, 32] : List UInt8), ([109, 117, 115, 116, 32] : List UInt8)] : List (List UInt8)).getD (Int.tmod d 3).toNat []
def headT (n : Nat) : List UInt8 := ([99, 108, 97, 115, 115] : List UInt8) ++ namesT n 255 n ++ [59, 10]
def joinT (n : Nat) (j a : Int) : List UInt8 := if j = 0 then headT n else headT n ++ [106, 111, 105, 110] ++ namesT n j.toNat n ++ [32, 47] ++ namesT n a.toNat n ++ [59, 10]
def trT (b : List UInt8) (n : Nat) (tr : List Int) : Nat → List UInt8
  | 0 => b
  | k + 1 => trT b n tr k ++ [116, 114, 101, 97, 116, 32] ++ [nmB n k] ++ [32, 61, 32] ++ [nmB n (tr.getD k 0).toNat] ++ [59, 10]
def ruT (b : List UInt8) (n : Nat) (l : List PR) : Nat → List UInt8
  | 0 => b
  | k + 1 => ruT b n l k ++ wordT (l.getD k pr0).1 ++ exOT n (exO (l.getD k pr0).2.1) ++ [32, 47, 32] ++ exOT n (exO (l.getD k pr0).2.2) ++ [59, 10]
def cntP (c : Int) : Nat := 1 + c.toNat % 6
def planT (c j a : Int) (tr : List Int) (l : List PR) : List UInt8 := ruT (trT (joinT (cntP c) j a) (cntP c) tr (min tr.length (cntP c))) (cntP c) l (min l.length 10)
structure Pl (c j a : Int) (tr : List Int) (l : List PR) : Prop where
  hc : 0 ≤ c ∧ c < 256
  hj : 0 ≤ j ∧ j < 256
  ha : 0 ≤ a ∧ a < 256
  ht : Sm tr
  hl : ∀ x ∈ l, (0 ≤ x.1 ∧ x.1 < 256) ∧ Sm x.2.1 ∧ Sm x.2.2
theorem wordT_len (d : Int) : (wordT d).length ≤ 5 := by
  unfold wordT
  generalize (Int.tmod d 3).toNat = k
  match k with
  | 0 => decide
  | 1 => decide
  | 2 => decide
  | k + 3 => simp
theorem headT_len {n : Nat} (h6 : n ≤ 6) : (headT n).length ≤ 30 := by
  have := namesT_len n 255 n
  simp only [headT, List.length_append, List.length_cons, List.length_nil]; omega
theorem joinT_len {n : Nat} (h6 : n ≤ 6) (j a : Int) : (joinT n j a).length ≤ 70 := by
  have h0 := headT_len h6
  have h1 := namesT_len n j.toNat n
  have h2 := namesT_len n a.toNat n
  unfold joinT
  split
  · omega
  · simp only [List.length_append, List.length_cons, List.length_nil]; omega
theorem trT_len (b : List UInt8) (n : Nat) (tr : List Int) (k : Nat) : (trT b n tr k).length = b.length + 13 * k := by
  induction k with
  | zero => rfl
  | succ k ih => simp only [trT, List.length_append, List.length_cons, List.length_nil, ih]; omega
theorem ruT_len {n : Nat} (h6 : n ≤ 6) (b : List UInt8) (l : List PR) (k : Nat) : (ruT b n l k).length ≤ b.length + 2010 * k := by
  induction k with
  | zero => exact Nat.le_refl _
  | succ k ih =>
    have h1 := wordT_len (l.getD k pr0).1
    have h2 := exOT_len h6 (l.getD k pr0).2.1
    have h3 := exOT_len h6 (l.getD k pr0).2.2
    simp only [ruT, List.length_append, List.length_cons, List.length_nil]; omega
theorem cntP_pos (c : Int) : 1 ≤ cntP c := by unfold cntP; omega
theorem cntP_le (c : Int) : cntP c ≤ 6 := by unfold cntP; omega
theorem count_eq {c j a : Int} {tr l} (h : Pl c j a tr l) : hq_Plan_Count c j a tr l = some (cntP c : Int) := by
  unfold hq_Plan_Count
  rw [if_pos (by decide)]
  obtain ⟨m, rfl⟩ := Int.eq_ofNat_of_zero_le h.hc.1
  have e : Int.tmod ((m : Nat) : Int) (6 : Int) = ((m % 6 : Nat) : Int) := rfl
  rw [e, wrap_i64 (x := ((m % 6 : Nat) : Int)) (by omega) (by omega), wrap_i64 (by omega) (by omega)]
  simp only [cntP, Int.toNat_natCast]
  congr 1
theorem Text_L1 {n : Nat} (h1 : 1 ≤ n) (h6 : n ≤ 6) (b : List UInt8) (hb : b.length ≤ 1000) {tr : List Int} (ht : Sm tr) : iter (hq_Text_L1 tr (n : Int)) (b, ((0 : Nat) : Int)) = some (trT b n tr (min tr.length n)) := by
  refine iter_count (fun k : Nat => (trT b n tr k, (k : Int))) (min tr.length n) (fun k hk => ?_) ?_
  · have hl := trT_len b n tr k
    have hx := ht _ (getD_mem' (d := 0) (show k < tr.length by omega))
    obtain ⟨v, hv⟩ := Int.eq_ofNat_of_zero_le hx.1
    unfold hq_Text_L1
    simp only [Int.toNat_natCast]
    rw [if_pos (by simp; omega), decide_eq_true (show (k : Int) < (n : Int) by omega)]
    simp only [Option.bind_some, if_true]
    rw [if_pos (by simp; omega), name_eq h1 h6]
    simp only [Option.bind_some]
    rw [if_pos (by simp; omega), if_pos (by simp; omega), if_pos ⟨by omega, by omega⟩, wrap_i64 (x := tr.getD k 0) (by omega) (by omega), hv, name_eq h1 h6]
    simp only [Option.bind_some]
    rw [if_pos (by simp; omega), if_pos (by simp; omega), wrap_i64 (by omega) (by omega)]
    have ev : (tr.getD k 0).toNat = v := by rw [hv]; rfl
    simp only [trT, ev]
    rfl
  · unfold hq_Text_L1
    simp only []
    by_cases h : min tr.length n = tr.length
    · rw [if_neg (by simp; omega)]; rfl
    · by_cases h' : ((min tr.length n : Nat) : Int) < (tr.length : Int)
      · rw [if_pos (by simpa using h'), decide_eq_false (by omega)]; rfl
      · rw [if_neg (by simpa using h')]; rfl
theorem Text_L2 {n : Nat} (h1 : 1 ≤ n) (h6 : n ≤ 6) (b : List UInt8) (hb : b.length ≤ 1000) {l : List PR} (hl : ∀ x ∈ l, (0 ≤ x.1 ∧ x.1 < 256) ∧ Sm x.2.1 ∧ Sm x.2.2) : iter (hq_Text_L2 l (n : Int)) (b, ((0 : Nat) : Int)) = some (ruT b n l (min l.length 10)) := by
  refine iter_count (fun k : Nat => (ruT b n l k, (k : Int))) (min l.length 10) (fun k hk => ?_) ?_
  · have hlen := ruT_len h6 b l k
    obtain ⟨hx, hy, hz⟩ := hl _ (getD_mem' (d := pr0) (show k < l.length by omega))
    have hw := wordT_len (l.getD k pr0).1
    have e1 := exOT_len h6 (l.getD k ((0 : Int), (([] : List Int), ([] : List Int)))).2.1
    have e2 := exOT_len h6 (l.getD k ((0 : Int), (([] : List Int), ([] : List Int)))).2.2
    obtain ⟨v, hv⟩ := Int.eq_ofNat_of_zero_le hx.1
    have em : Int.tmod (l.getD k pr0).1 3 = ((v % 3 : Nat) : Int) := by rw [hv]; rfl
    have hm : v % 3 < 3 := Nat.mod_lt _ (by decide)
    have c2 : 0 ≤ (k : Int) ∧ (k : Int) < (l.length : Int) := ⟨by omega, by omega⟩
    unfold hq_Text_L2
    simp only [Int.toNat_natCast]
    rw [if_pos (by simp; omega), decide_eq_true (show (k : Int) < 10 by omega)]
    simp only [Option.bind_some, if_true]
    rw [if_pos c2, if_pos (by decide), if_pos ⟨by rw [em]; omega, by rw [em]; show _ < ((3 : Nat) : Int); omega⟩, if_pos (by rw [em, Int.toNat_natCast]; exact hm)]
    change (if (ruT b n l k).length + (wordT (l.getD k pr0).1).length ≤ 9223372036854775807 then _ else none) = _
    rw [if_pos (by omega), if_pos c2, show hq_Expr (n : Int) (l.getD k ((0 : Int), (([] : List Int), ([] : List Int)))).2.1 = _ from Expr_eq h1 h6 hy]
    simp only [Option.bind_some]
    change (if (ruT b n l k ++ wordT (l.getD k pr0).1).length + _ ≤ 9223372036854775807 then _ else none) = _
    rw [if_pos (by simp only [List.length_append]; omega), if_pos (by simp only [List.length_append, List.length_cons, List.length_nil]; change (ruT b n l k).length + (wordT (l.getD k pr0).1).length + _ + _ ≤ _; omega), if_pos c2, show hq_Expr (n : Int) (l.getD k ((0 : Int), (([] : List Int), ([] : List Int)))).2.2 = _ from Expr_eq h1 h6 hz]
    simp only [Option.bind_some]
    rw [if_pos (by simp only [List.length_append, List.length_cons, List.length_nil]; change (ruT b n l k).length + (wordT (l.getD k pr0).1).length + _ + _ + _ ≤ _; omega), if_pos (by simp only [List.length_append, List.length_cons, List.length_nil]; change (ruT b n l k).length + (wordT (l.getD k pr0).1).length + _ + _ + _ + _ ≤ _; omega), wrap_i64 (by omega) (by omega)]
    rfl
  · unfold hq_Text_L2
    simp only []
    by_cases h : min l.length 10 = l.length
    · rw [if_neg (by simp; omega)]; rfl
    · by_cases h' : ((min l.length 10 : Nat) : Int) < (l.length : Int)
      · rw [if_pos (by simpa using h'), decide_eq_false (by omega)]; rfl
      · rw [if_neg (by simpa using h')]; rfl
theorem Text_eq {c j a : Int} {tr l} (h : Pl c j a tr l) : hq_Text c j a tr l = some (planT c j a tr l) := by
  unfold hq_Text
  rw [count_eq h]
  simp only [Option.bind_some]
  have h1 := cntP_pos c
  have h6 := cntP_le c
  rw [show hq_names (cntP c : Int) 255 = _ from names_eq (b := 255) h1 h6 (by decide)]
  simp only [Option.bind_some]
  have l0 := namesT_len (cntP c) 255 (cntP c)
  have l1 := namesT_len (cntP c) j.toNat (cntP c)
  have l2 := namesT_len (cntP c) a.toNat (cntP c)
  rw [if_pos (by simp; omega), if_pos (by simp; omega)]
  have hjl := joinT_len h6 j a
  have key : (if (j != (0 : Int)) = true then (if ((([99, 108, 97, 115, 115] : List UInt8) ++ namesT (cntP c) 255 (cntP c)) ++ ([59, 10] : List UInt8)).length + ([106, 111, 105, 110] : List UInt8).length ≤ 9223372036854775807 then ((hq_names (cntP c : Int) j).bind fun (r11 : List UInt8) =>
      (if (((([99, 108, 97, 115, 115] : List UInt8) ++ namesT (cntP c) 255 (cntP c)) ++ ([59, 10] : List UInt8)) ++ ([106, 111, 105, 110] : List UInt8)).length + r11.length ≤ 9223372036854775807 then (if ((((([99, 108, 97, 115, 115] : List UInt8) ++ namesT (cntP c) 255 (cntP c)) ++ ([59, 10] : List UInt8)) ++ ([106, 111, 105, 110] : List UInt8)) ++ r11).length + ([32, 47] : List UInt8).length ≤ 9223372036854775807 then ((hq_names (cntP c : Int) a).bind fun (r12 : List UInt8) =>
      (if (((((([99, 108, 97, 115, 115] : List UInt8) ++ namesT (cntP c) 255 (cntP c)) ++ ([59, 10] : List UInt8)) ++ ([106, 111, 105, 110] : List UInt8)) ++ r11) ++ ([32, 47] : List UInt8)).length + r12.length ≤ 9223372036854775807 then (if ((((((([99, 108, 97, 115, 115] : List UInt8) ++ namesT (cntP c) 255 (cntP c)) ++ ([59, 10] : List UInt8)) ++ ([106, 111, 105, 110] : List UInt8)) ++ r11) ++ ([32, 47] : List UInt8)) ++ r12).length + ([59, 10] : List UInt8).length ≤ 9223372036854775807 then some ((((((((([99, 108, 97, 115, 115] : List UInt8) ++ namesT (cntP c) 255 (cntP c)) ++ ([59, 10] : List UInt8)) ++ ([106, 111, 105, 110] : List UInt8)) ++ r11) ++ ([32, 47] : List UInt8)) ++ r12) ++ ([59, 10] : List UInt8))) else none) else none)) else none) else none)) else none)
      else some (((([99, 108, 97, 115, 115] : List UInt8) ++ namesT (cntP c) 255 (cntP c)) ++ ([59, 10] : List UInt8)))) = some (joinT (cntP c) j a) := by
    unfold joinT
    by_cases hj : j = 0
    · rw [if_neg (by simp [hj]), if_pos hj]; rfl
    · obtain ⟨vj, hvj⟩ := Int.eq_ofNat_of_zero_le h.hj.1
      obtain ⟨va, hva⟩ := Int.eq_ofNat_of_zero_le h.ha.1
      have q1 := h.hj.2
      have q2 := h.ha.2
      rw [if_pos (by simpa using hj), if_neg hj]
      subst hvj; subst hva
      simp only [Int.toNat_natCast] at l1 l2 q1 q2 ⊢
      rw [if_pos (by simp; omega), names_eq h1 h6 (by omega)]
      simp only [Option.bind_some]
      rw [if_pos (by simp; omega), if_pos (by simp; omega), names_eq h1 h6 (by omega)]
      simp only [Option.bind_some]
      rw [if_pos (by simp; omega), if_pos (by simp; omega)]
      rfl
  rw [key]
  simp only [Option.bind_some]
  have htl := trT_len (joinT (cntP c) j a) (cntP c) tr (min tr.length (cntP c))
  rw [show iter (hq_Text_L1 tr (cntP c : Int)) (joinT (cntP c) j a, 0) = _ from Text_L1 h1 h6 (joinT (cntP c) j a) (by omega) h.ht]
  simp only [Option.bind_some]
  have hm : min tr.length (cntP c) ≤ 6 := by omega
  rw [show iter (hq_Text_L2 l (cntP c : Int)) (trT (joinT (cntP c) j a) (cntP c) tr (min tr.length (cntP c)), 0) = _ from Text_L2 h1 h6 _ (by omega) h.hl]
  rfl
theorem pl_wf {c j a : Int} {tr : List Int} {l : List PR} (h : Wf (.prod (.int .u8) Y8) (c, j, a, tr, l)) : Pl c j a tr l := by
  obtain ⟨h1, h2, h3, h4, h5⟩ := h
  have sm : ∀ {y : List Int}, Wf (.slice (.int .u8)) y → Sm y := fun {y} hy z hz => by
    obtain ⟨i, hi, rfl⟩ := List.getElem_of_mem hz
    have := hy.2 i hi
    exact ⟨this.1, Int.lt_add_one_iff.mpr this.2⟩
  refine ⟨⟨h1.1, Int.lt_add_one_iff.mpr h1.2⟩, ⟨h2.1, Int.lt_add_one_iff.mpr h2.2⟩, ⟨h3.1, Int.lt_add_one_iff.mpr h3.2⟩, sm h4, fun x hx => ?_⟩
  obtain ⟨i, hi, rfl⟩ := List.getElem_of_mem hx
  obtain ⟨k1, k2, k3⟩ := h5.2 i hi
  exact ⟨⟨k1.1, Int.lt_add_one_iff.mpr k1.2⟩, sm k2, sm k3⟩
end Go.Proofs.Ytjfjigknkhgkdaa.T
