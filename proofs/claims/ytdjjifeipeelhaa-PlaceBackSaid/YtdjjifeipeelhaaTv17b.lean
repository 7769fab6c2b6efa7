/- Place: columns; the search of the first one. -/
import Derived.Test.YtdjjifeipeelhaaTv17a
namespace Go.Proofs.Ytdjjifeipeelhaa.T
open Go Go.Tv Go.Proofs

theorem u64_wrap (x : Int) : IntKind.u64.wrap x = x % 18446744073709551616 := by
  simp [IntKind.wrap, IntKind.bits, IntKind.signed]

/-- Clusters: cells from 0 to 2. -/
def GoodC (C : List C4) : Prop := ∀ i, 0 ≤ (C.getD i z4).2.2.1 ∧ (C.getD i z4).2.2.1 ≤ 2

def nextC (c : C4) (col tab : Int) : Int := if c.2.2.2 = 2 then col + tab - col % tab else col + c.2.2.1
def colS (C : List C4) (tab : Int) (f : Nat) : Nat → Int
  | 0 => 0
  | k + 1 => nextC (C.getD (f + k) z4) (colS C tab f k) tab
def colL (C : List C4) (tab : Int) (f t : Nat) : List Int := (List.range (t - f + 1)).map (colS C tab f)

section
variable {C : List C4} {tab : Int} (hg : GoodC C) (ht : 1 ≤ tab ∧ tab ≤ 64)
include hg ht

theorem nextC_in (i : Nat) {col : Int} (h0 : 0 ≤ col) : col ≤ nextC (C.getD i z4) col tab ∧ nextC (C.getD i z4) col tab ≤ col + 64 := by
  unfold nextC
  have := hg i
  have := Int.emod_nonneg col (show tab ≠ 0 by omega)
  have := Int.emod_lt_of_pos col (show 0 < tab by omega)
  split <;> omega
theorem nextC_gt (i : Nat) {col : Int} (h : (C.getD i z4).2.2.2 = 2 ∨ 0 < (C.getD i z4).2.2.1) (h0 : 0 ≤ col) : col < nextC (C.getD i z4) col tab := by
  unfold nextC
  have := hg i
  have := Int.emod_nonneg col (show tab ≠ 0 by omega)
  have := Int.emod_lt_of_pos col (show 0 < tab by omega)
  split <;> omega
theorem colS_in (f : Nat) : ∀ k, 0 ≤ colS C tab f k ∧ colS C tab f k ≤ 64 * k
  | 0 => by simp [colS]
  | k + 1 => by
    have h1 := colS_in f k
    have h2 := nextC_in hg ht (f + k) h1.1
    simp only [colS]
    omega
theorem colS_mono (f : Nat) {j k : Nat} (h : j ≤ k) : colS C tab f j ≤ colS C tab f k := by
  induction k with
  | zero => obtain rfl : j = 0 := by omega
            exact Int.le_refl _
  | succ k ih =>
    by_cases e : j = k + 1
    · subst e; exact Int.le_refl _
    · have h1 := ih (by omega)
      have h2 := nextC_in hg ht (f + k) (colS_in hg ht f k).1
      simp only [colS]
      omega

theorem spanNext_eq (i : Nat) {col : Int} (h0 : 0 ≤ col ∧ col ≤ 1000000) : span_Next (C.getD i z4).1 (C.getD i z4).2.1 (C.getD i z4).2.2.1 (C.getD i z4).2.2.2 col tab = some (nextC (C.getD i z4) col tab) := by
  unfold span_Next nextC
  have := hg i
  have := Int.emod_nonneg col (show tab ≠ 0 by omega)
  have := Int.emod_lt_of_pos col (show 0 < tab by omega)
  by_cases h : (C.getD i z4).2.2.2 = 2
  · rw [if_pos (by simpa using h), if_pos (by omega), if_pos h, Int.tmod_eq_emod_of_nonneg h0.1, wrap_i64 (x := col + tab) (by omega) (by omega), wrap_i64 (by omega) (by omega)]
  · rw [if_neg (by simpa using h), if_neg h, wrap_i64 (by omega) (by omega)]

theorem refNext_eq (i : Nat) {col : Int} (h0 : 0 ≤ col ∧ col ≤ 1000000) : stanzaref13_Next (C.getD i z4).1 (C.getD i z4).2.1 (C.getD i z4).2.2.1 (C.getD i z4).2.2.2 col tab = some (nextC (C.getD i z4) col tab) := by
  unfold stanzaref13_Next nextC
  have hgi := hg i
  have hr0 := Int.emod_nonneg col (show tab ≠ 0 by omega)
  have hr1 := Int.emod_lt_of_pos col (show 0 < tab by omega)
  by_cases h : (C.getD i z4).2.2.2 = 2
  · rw [if_neg (by simpa using h), if_pos h]
    have hi := iter_count (body := stanzaref13_Next_L1 tab) (fun k => col + 1 + (k : Int)) (tab - 1 - col % tab).toNat (r := col + tab - col % tab) (fun k hk => by
      have hm : (col + 1 + (k : Int)) % tab = col % tab + 1 + k := by
        have e : col + 1 + (k : Int) = (col % tab + 1 + k) + tab * (col / tab) := by
          have := Int.emod_add_mul_ediv col tab
          omega
        rw [e, Int.add_mul_emod_self_left, Int.emod_eq_of_lt (by omega) (by omega)]
      simp only [stanzaref13_Next_L1]
      rw [if_pos (by omega), Int.tmod_eq_emod_of_nonneg (by omega), hm, if_pos (by simp only [bne_iff_ne, ne_eq]; omega), wrap_i64 (by omega) (by omega)]
      congr 2
      omega) (by
        have e1 : col + 1 + (((tab - 1 - col % tab).toNat : Nat) : Int) = col + tab - col % tab := by omega
        have hm : (col + tab - col % tab) % tab = 0 := by
          have e : col + tab - col % tab = 0 + tab * (col / tab + 1) := by
            have := Int.emod_add_mul_ediv col tab
            rw [Int.mul_add]
            omega
          rw [e, Int.add_mul_emod_self_left]
          simp
        simp only [stanzaref13_Next_L1, e1]
        rw [if_pos (by omega), Int.tmod_eq_emod_of_nonneg (by omega), hm, if_neg (by simp)])
    have hi' : iter (stanzaref13_Next_L1 tab) (col + 1) = some (col + tab - col % tab) := by simpa using hi
    rw [wrap_i64 (by omega) (by omega), hi']
    rfl
  · rw [if_pos (by simpa using h), if_neg h, wrap_i64 (by omega) (by omega)]

theorem spanColumns_eq {O : List Int} {f t : Nat} (hft : f ≤ t) (htn : t ≤ C.length) (hn : C.length ≤ 100) : span_Columns C O (f : Int) (t : Int) tab = some (colL C tab f t) := by
  have hi := iter_count (body := span_Columns_L1 C (t : Int) tab) (fun k => ((List.range (k + 1)).map (colS C tab f), ((f + k : Nat) : Int))) (t - f) (r := colL C tab f t) (fun k hk => by
    have hc := colS_in hg ht f k
    have hlen : ((List.range (k + 1)).map (colS C tab f)).length = k + 1 := by simp
    have hlast : ((List.range (k + 1)).map (colS C tab f)).getD k 0 = colS C tab f k := by
      rw [List.getD_eq_getElem?_getD, List.getElem?_map, List.getElem?_range (by omega)]; rfl
    have e1 : IntKind.i64.wrap (((k + 1 : Nat) : Int) - 1) = (k : Int) := by rw [wrap_i64 (by omega) (by omega)]; omega
    simp only [span_Columns_L1, hlen, e1, Int.toNat_natCast, hlast]
    rw [if_pos (by simp only [decide_eq_true_eq]; omega), if_pos ⟨by omega, by omega⟩, if_pos ⟨by omega, by omega⟩, if_pos (by omega)]
    have hs := spanNext_eq hg ht (f + k) (col := colS C tab f k) (by omega)
    unfold z4 at hs
    rw [hs]
    simp only [Option.bind_some]
    rw [if_pos ⟨by simp only [List.length_cons, List.length_nil]; omega, by simp only [List.length_cons, List.length_nil]; omega⟩, wrap_i64 (by omega) (by omega), List.range_succ (n := k + 1), List.map_append]
    have e2 : ((f + k : Nat) : Int) + 1 = ((f + (k + 1) : Nat) : Int) := by omega
    rw [e2]
    rfl) (by
      simp only [span_Columns_L1]
      rw [if_neg (by simp only [decide_eq_true_eq]; omega)]
      rfl)
  have hi' : iter (span_Columns_L1 C (t : Int) tab) (([(0 : Int)] : List Int), (f : Int)) = some (colL C tab f t) := hi
  unfold span_Columns
  rw [hi']
  rfl

theorem refColumns_eq {O : List Int} {f t : Nat} (hft : f ≤ t) (htn : t ≤ C.length) (hn : C.length ≤ 100) : stanzaref13_Columns C O (f : Int) (t : Int) tab = some (colL C tab f t) := by
  have hi := iter_count (body := stanzaref13_Columns_L1 C (t : Int) tab) (fun k => (colS C tab f k, (List.range (k + 1)).map (colS C tab f), ((f + k : Nat) : Int))) (t - f) (r := colL C tab f t) (fun k hk => by
    have hc := colS_in hg ht f k
    have hlen : ((List.range (k + 1)).map (colS C tab f)).length = k + 1 := by simp
    simp only [stanzaref13_Columns_L1, hlen, Int.toNat_natCast]
    rw [if_pos (by simp only [decide_eq_true_eq]; omega), if_pos ⟨by omega, by omega⟩]
    have hs := refNext_eq hg ht (f + k) (col := colS C tab f k) (by omega)
    unfold z4 at hs
    rw [hs]
    simp only [Option.bind_some]
    rw [if_pos ⟨by simp only [List.length_cons, List.length_nil]; omega, by simp only [List.length_cons, List.length_nil]; omega⟩, wrap_i64 (by omega) (by omega), List.range_succ (n := k + 1), List.map_append]
    have e2 : ((f + k : Nat) : Int) + 1 = ((f + (k + 1) : Nat) : Int) := by omega
    rw [e2]
    rfl) (by
      simp only [stanzaref13_Columns_L1]
      rw [if_neg (by simp only [decide_eq_true_eq]; omega)]
      rfl)
  have hi' : iter (stanzaref13_Columns_L1 C (t : Int) tab) ((0 : Int), ([(0 : Int)] : List Int), (f : Int)) = some (colL C tab f t) := hi
  unfold stanzaref13_Columns
  rw [hi']
  rfl
end

theorem colL_len {C : List C4} {tab : Int} {f t : Nat} : (colL C tab f t).length = t - f + 1 := by simp [colL]
theorem colL_get {C : List C4} {tab : Int} {f t k : Nat} (h : k < t - f + 1) : (colL C tab f t).getD k 0 = colS C tab f k := by
  unfold colL
  rw [List.getD_eq_getElem?_getD, List.getElem?_map, List.getElem?_range h]; rfl

/-! ### the search -/
def midE (i j : Int) : Int := IntKind.i64.wrap (Int.fdiv (IntKind.u64.wrap (IntKind.i64.wrap (i + j))) (2 ^ (min (1 : Int).toNat IntKind.u64.bits)))
noncomputable def searchL (is : Int → Option Bool) : (Int × Int) → Option ((Int × Int) ⊕ Int) := fun ((i2, j2) : Int × Int) =>
  (if (decide (i2 < j2)) = true then (if 0 ≤ (1 : Int) then ((is (midE i2 j2)).bind fun (r6 : Bool) =>
  (if (!r6) = true then some (Sum.inl ((IntKind.i64.wrap (midE i2 j2 + (1 : Int))), j2))
  else some (Sum.inl (i2, midE i2 j2)))) else none)
  else some (Sum.inr i2))
theorem search0 (f1 : Int) (f2 : List C4) : sort_Search_L1 f1 f2 = searchL (fun i => api_Cluster_1 i f1 f2) := rfl
theorem search1 (f1 : Int) (f2 : List C4) : sort_Search_v1_L1 f1 f2 = searchL (fun i => api_Line_1 i f1 f2) := rfl
theorem search2 (f1 f2 : Int) (f3 : List Int) : sort_Search_v2_L1 f1 f2 f3 = searchL (fun i => place_ahead_int_1 i f1 f2 f3) := rfl

theorem mid_eq {a b : Nat} (hb : b ≤ 1000000) (hab : a ≤ b) : midE (a : Int) (b : Int) = (((a + b) / 2 : Nat) : Int) := by
  unfold midE
  rw [wrap_i64 (x := (a : Int) + b) (by omega) (by omega), u64_wrap]
  have e : ((a : Int) + b) % 18446744073709551616 = ((a + b : Nat) : Int) := by omega
  rw [e]
  have e2 : (2 : Int) ^ (min (1 : Int).toNat IntKind.u64.bits) = ((2 : Nat) : Int) := by decide
  have e3 : Int.fdiv ((a + b : Nat) : Int) ((2 : Nat) : Int) = (((a + b) / 2 : Nat) : Int) := by
    rw [Int.fdiv_eq_ediv_of_nonneg _ (by omega)]; rfl
  rw [e2, e3, wrap_i64 (by omega) (by omega)]

theorem search_eq {is : Int → Option Bool} (P : Nat → Bool) (n : Nat) (hn : n ≤ 1000000) (his : ∀ i : Nat, i < n → is (i : Int) = some (P i)) (mono : ∀ i j : Nat, i ≤ j → j < n → P i = true → P j = true) :
    ∃ k : Nat, k ≤ n ∧ iter (searchL is) ((0 : Int), (n : Int)) = some (k : Int) ∧ (∀ j, j < k → P j = false) ∧ (k < n → P k = true) := by
  obtain ⟨r, h1, k, h2, h3, h4, h5⟩ := iter_rule (body := searchL is) (fun s => ∃ a b : Nat, s = ((a : Int), (b : Int)) ∧ a ≤ b ∧ b ≤ n ∧ (∀ j, j < a → P j = false) ∧ (b < n → P b = true))
    (fun s => (s.2 - s.1).toNat) (fun r => ∃ k : Nat, r = (k : Int) ∧ k ≤ n ∧ (∀ j, j < k → P j = false) ∧ (k < n → P k = true))
    (fun s ⟨a, b, e, hab, hbn, hl, hr⟩ => by
      subst e
      simp only [searchL]
      by_cases h : a < b
      · left
        have hm := mid_eq (a := a) (b := b) (by omega) hab
        have hlt : (a + b) / 2 < b := by omega
        have hge : a ≤ (a + b) / 2 := by omega
        rw [if_pos (by simp only [decide_eq_true_eq]; omega), if_pos (by omega), hm, his _ (by omega)]
        simp only [Option.bind_some]
        cases hp : P ((a + b) / 2) with
        | false =>
          rw [if_pos (show (!false) = true from rfl), wrap_i64 (by omega) (by omega)]
          refine ⟨_, rfl, ⟨(a + b) / 2 + 1, b, by congr 1, by omega, hbn, fun j hj => ?_, hr⟩, by simp only; omega⟩
          cases hq : P j with
          | false => rfl
          | true =>
            have := mono j ((a + b) / 2) (by omega) (by omega) hq
            rw [hp] at this; cases this
        | true =>
          rw [if_neg (by simp)]
          exact ⟨_, rfl, ⟨a, (a + b) / 2, rfl, by omega, by omega, hl, fun _ => hp⟩, by simp only; omega⟩
      · right
        obtain rfl : a = b := by omega
        rw [if_neg (by simp)]
        exact ⟨_, rfl, a, rfl, hbn, hl, hr⟩)
    (s := ((0 : Int), (n : Int))) ⟨0, n, rfl, by omega, Nat.le_refl _, fun j hj => absurd hj (by omega), fun h => absurd h (by omega)⟩
  exact ⟨k, h3, by rw [h1, h2], h4, h5⟩
end Go.Proofs.Ytdjjifeipeelhaa.T
