/- Patterns: the signs of texts put together. -/
import Derived.Test.YtcdmdcfpjeomfaaTv07g
namespace Go.Proofs.Ytcdmdcfpjeomfaa.T
open Go Go.Tv Go.Proofs

def sgF (b : List Int) : Nat → Nat → List Sgn
  | 0, _ => []
  | n + 1, a => if a < b.length then ((oneS b a).1, ((a : Nat) : Int), ((oneS b a).2 : Int)) :: sgF b n (a + (oneS b a).2) else []
/-- The signs of a text, in plain words. -/
def sg (b : List Int) : List Sgn := sgF b b.length 0

theorem sgF_fuel {b : List Int} : ∀ (n m a : Nat), b.length ≤ a + n → b.length ≤ a + m → sgF b n a = sgF b m a
  | 0, 0, _, _, _ => rfl
  | 0, m + 1, a, h1, _ => by simp only [sgF]; rw [if_neg (by omega)]
  | n + 1, 0, a, _, h2 => by simp only [sgF]; rw [if_neg (by omega)]
  | n + 1, m + 1, a, h1, h2 => by
    simp only [sgF]
    by_cases h : a < b.length
    · have := oneS_len h
      rw [if_pos h, if_pos h, sgF_fuel n m _ (by omega) (by omega)]
    · rw [if_neg h, if_neg h]

theorem sgns_eq {b : List Int} (hb : Bytes b) (hl : b.length ≤ 1000000) : sgns b = sg b := by
  have key : ∀ (n a : Nat) (out : List Sgn), b.length ≤ a + n → a ≤ b.length → out.length ≤ a → ∃ r, iter (scal_All_L1 b) (out, (a : Int)) = some r ∧ r = out ++ sgF b n a := by
    intro n
    induction n with
    | zero =>
      intro a out h1 h2 h3
      refine iter_case ⟨.inr out, ?_, ?_⟩
      · simp only [scal_All_L1]
        rw [if_neg (by simp only [decide_eq_true_eq]; omega)]
      · simp [sgF]
    | succ n ih =>
      intro a out h1 h2 h3
      by_cases h : a < b.length
      · have hon := oneS_len h
        refine iter_case ⟨.inl (out ++ [((oneS b a).1, (((a : Nat) : Int), ((oneS b a).2 : Int)))], ((a + (oneS b a).2 : Nat) : Int)), ?_, ?_⟩
        · simp only [scal_All_L1, scalOne_eq hb hl h, Option.bind_some]
          rw [if_pos (by simp only [decide_eq_true_eq]; omega), if_pos ⟨by simp only [List.length_cons, List.length_nil]; omega, by simp only [List.length_cons, List.length_nil]; omega⟩, wrap_i64 (by omega) (by omega)]
          rfl
        · obtain ⟨r, r1, r2⟩ := ih (a + (oneS b a).2) (out ++ [((oneS b a).1, (((a : Nat) : Int), ((oneS b a).2 : Int)))]) (by omega) (by omega) (by simp only [List.length_append, List.length_cons, List.length_nil]; omega)
          refine ⟨r, r1, ?_⟩
          rw [r2]
          simp only [sgF, if_pos h, List.append_assoc, List.singleton_append]
      · refine iter_case ⟨.inr out, ?_, ?_⟩
        · simp only [scal_All_L1]
          rw [if_neg (by simp only [decide_eq_true_eq]; omega)]
        · simp only [sgF, if_neg h, List.append_nil]
  obtain ⟨r, r1, r2⟩ := key b.length 0 [] (by omega) (Nat.zero_le _) (Nat.le_refl _)
  have r1' : iter (scal_All_L1 b) (([] : List Sgn), (0 : Int)) = some r := r1
  unfold sgns scal_All
  rw [r1', r2]
  rfl

/-- Bytes that don't go on with what stands ahead of them. -/
def Start (y : List Int) : Prop := y.length = 0 ∨ y.getD 0 0 < 128 ∨ 191 < y.getD 0 0

theorem getD_left {x y : List Int} {a : Nat} (h : a < x.length) : (x ++ y).getD a 0 = x.getD a 0 := by
  rw [List.getD_eq_getElem?_getD, List.getD_eq_getElem?_getD, List.getElem?_append_left h]
theorem getD_right {x y : List Int} {a : Nat} : (x ++ y).getD (x.length + a) 0 = y.getD a 0 := by
  rw [List.getD_eq_getElem?_getD, List.getD_eq_getElem?_getD, List.getElem?_append_right (by omega), Nat.add_sub_cancel_left]

theorem okS_left {x y : List Int} {a k : Nat} (ha : a < x.length) (h : a + k < x.length) : okS (x ++ y) a k = okS x a k := by
  unfold okS
  rw [getD_left ha, getD_left h, decide_eq_decide, List.length_append]
  constructor
  · rintro ⟨_, q⟩; exact ⟨h, q⟩
  · rintro ⟨_, q⟩; exact ⟨by omega, q⟩
theorem okS_edge {x y : List Int} (hy : Start y) {a k : Nat} (h : a + k = x.length) : okS (x ++ y) a k = false := by
  cases ho : okS (x ++ y) a k with
  | false => rfl
  | true =>
    have := okS_in ho
    rw [List.length_append] at this
    have e : (x ++ y).getD (a + k) 0 = y.getD 0 0 := by rw [h]; exact getD_right (a := 0)
    rw [e] at this
    rcases hy with q | q | q <;> omega
theorem cntS_left {x y : List Int} (hy : Start y) {a : Nat} (ha : a < x.length) : cntS (x ++ y) a = cntS x a := by
  have hc := cntS_le x a
  unfold cntS at hc ⊢
  rw [getD_left ha]
  refine firstN_uniq hc (fun j hj => ?_) (fun hlt => ?_)
  · have h1 := firstN_lt (fun j => !okS x a (j + 1)) _ hj
    have h1' : okS x a (j + 1) = true := by simpa using h1
    have := okS_in h1'
    rw [okS_left ha (by omega), h1']
    rfl
  · have h1' : okS x a (cntS x a + 1) = false := cntS_not hlt
    show (!okS (x ++ y) a (cntS x a + 1)) = true
    rcases Nat.lt_trichotomy (a + (cntS x a + 1)) x.length with q | q | q
    · rw [okS_left ha q, h1']; rfl
    · rw [okS_edge hy q]; rfl
    · rcases Nat.eq_zero_or_pos (cntS x a) with e | e
      · omega
      · have := okS_in (cntS_ok (b := x) (a := a) (k := cntS x a) e (Nat.le_refl _))
        omega
theorem numS_left {x y : List Int} {a : Nat} (ha : a < x.length) : ∀ k, k ≤ cntS x a → numS (x ++ y) a k = numS x a k
  | 0, _ => by simp only [numS, getD_left ha]
  | k + 1, h => by
    have := okS_in (cntS_ok (b := x) (a := a) (k := k + 1) (by omega) h)
    simp only [numS]
    rw [numS_left ha k (by omega), getD_left (by omega)]
theorem oneS_left {x y : List Int} (hy : Start y) {a : Nat} (ha : a < x.length) : oneS (x ++ y) a = oneS x a := by
  unfold oneS
  rw [getD_left ha, cntS_left hy ha, numS_left ha _ (Nat.le_refl _)]

theorem okS_right {x y : List Int} {a k : Nat} : okS (x ++ y) (x.length + a) k = okS y a k := by
  unfold okS
  rw [getD_right, Nat.add_assoc, getD_right, decide_eq_decide, List.length_append]
  constructor
  · rintro ⟨q0, q⟩; exact ⟨by omega, q⟩
  · rintro ⟨q0, q⟩; exact ⟨by omega, q⟩
theorem numS_right {x y : List Int} {a : Nat} : ∀ k, numS (x ++ y) (x.length + a) k = numS y a k
  | 0 => by simp only [numS, getD_right]
  | k + 1 => by simp only [numS]; rw [numS_right k, Nat.add_assoc, getD_right]
theorem oneS_right {x y : List Int} {a : Nat} : oneS (x ++ y) (x.length + a) = oneS y a := by
  unfold oneS cntS
  simp only [getD_right, okS_right, numS_right]

def shf (d : Nat) (s : Sgn) : Sgn := (s.1, s.2.1 + (d : Int), s.2.2)
theorem sgF_right {x y : List Int} : ∀ (n a : Nat), sgF (x ++ y) n (x.length + a) = (sgF y n a).map (shf x.length)
  | 0, _ => rfl
  | n + 1, a => by
    simp only [sgF, oneS_right, List.length_append]
    by_cases h : a < y.length
    · rw [if_pos (by omega), if_pos h, Nat.add_assoc, sgF_right n, List.map_cons]
      congr 1
      unfold shf
      simp only
      congr 2
      omega
    · rw [if_neg (by omega), if_neg h]; rfl
theorem sgF_left {x y : List Int} (hy : Start y) : ∀ (n a : Nat), a ≤ x.length → (x ++ y).length ≤ a + n → sgF (x ++ y) n a = sgF x n a ++ (sg y).map (shf x.length)
  | 0, a, ha, hn => by
    rw [List.length_append] at hn
    have : y = [] := List.eq_nil_of_length_eq_zero (by omega)
    subst this
    rfl
  | n + 1, a, ha, hn => by
    by_cases h : a < x.length
    · have hon := oneS_len h
      simp only [sgF]
      rw [oneS_left hy h, if_pos (by rw [List.length_append]; omega), if_pos h, sgF_left hy n _ (by omega) (by omega)]
      rfl
    · have : a = x.length + 0 := by omega
      rw [this, sgF_right]
      have e : sgF x (n + 1) (x.length + 0) = [] := by simp only [sgF]; rw [if_neg (by omega)]
      rw [e, List.nil_append]
      rw [List.length_append] at hn
      unfold sg
      rw [sgF_fuel (n + 1) y.length 0 (by omega) (by omega)]
theorem sg_append {x y : List Int} (hy : Start y) : sg (x ++ y) = sg x ++ (sg y).map (shf x.length) := by
  unfold sg
  rw [sgF_left hy _ 0 (Nat.zero_le _) (by omega), sgF_fuel (b := x) (x ++ y).length x.length 0 (by rw [List.length_append]; omega) (by omega)]
  rfl
theorem sg_ascii {c : Int} (h : c < 128) (y : List Int) : sg (c :: y) = (c, 0, 1) :: (sg y).map (shf 1) := by
  have h1 : oneS (c :: y) 0 = (c, 1) := by
    unfold oneS lenS
    simp only [List.getD_cons_zero, if_pos h]
    rfl
  unfold sg
  simp only [List.length_cons, sgF, h1]
  rw [if_pos (by omega)]
  congr 1
  exact sgF_right (x := [c]) (y := y) y.length 0
end Go.Proofs.Ytcdmdcfpjeomfaa.T
