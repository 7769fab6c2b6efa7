/- A plan's rules as a text. -/
import Derived.Test.YtjfjigknkhgkdaaTvT03xd
import Derived.Test.YtjfjigknkhgkdaaTvYb
import Derived.Test.YtjfjigknkhgkdaaTvV
namespace Go.Proofs.Ytjfjigknkhgkdaa.T
open Go Go.Tv Go.Proofs
def nmB (n i : Nat) : UInt8 := (65 + i % n).toUInt8
def namesT (n b : Nat) : Nat → List UInt8
  | 0 => []
  | k + 1 => namesT n b k ++ (if b / 2 ^ k % 2 = 1 then [32, nmB n k] else [])
theorem name_eq {n i : Nat} (h1 : 1 ≤ n) (h6 : n ≤ 6) : hq_name (n : Int) (i : Int) = some [nmB n i] := by
  unfold hq_name
  rw [if_pos (by omega)]
  have e : Int.tmod (i : Int) (n : Int) = ((i % n : Nat) : Int) := rfl
  have hlt : i % n < n := Nat.mod_lt _ (by omega)
  rw [e, wrap_i64 (by omega) (by omega), wrap_u8 (by omega) (by omega)]
  rfl
theorem namesT_len (n b k : Nat) : (namesT n b k).length ≤ 2 * k := by
  induction k with
  | zero => exact Nat.le_refl _
  | succ k ih =>
    simp only [namesT, List.length_append]
    split <;> simp only [List.length_cons, List.length_nil] <;> omega
theorem names_eq {n b : Nat} (h1 : 1 ≤ n) (h6 : n ≤ 6) (hb : b < 256) : hq_names (n : Int) (b : Int) = some (namesT n b n) := by
  unfold hq_names
  have hi : iter (hq_names_L1 (n : Int) (b : Int)) (namesT n b 0, ((0 : Nat) : Int)) = some (namesT n b n) := by
    refine iter_count (fun k : Nat => (namesT n b k, (k : Int))) n (fun k hk => ?_) ?_
    · have hl := namesT_len n b k
      have e8 : IntKind.u8.bits = 8 := rfl
      have e : Int.fdiv (b : Int) (2 ^ (min (k : Int).toNat IntKind.u8.bits)) = ((b / 2 ^ k : Nat) : Int) := by
        rw [Int.toNat_natCast, e8, show min k 8 = k by omega, Int.fdiv_eq_ediv_of_nonneg _ (by exact Int.le_of_lt (Int.pow_pos (by decide)))]
        simp
      have e2 : Int.tmod ((b / 2 ^ k : Nat) : Int) (2 : Int) = ((b / 2 ^ k % 2 : Nat) : Int) := rfl
      unfold hq_names_L1
      simp only [e, e2]
      rw [if_pos (by simp; omega), if_pos (by omega), if_pos (by decide)]
      simp only [namesT]
      by_cases hbit : b / 2 ^ k % 2 = 1
      · rw [if_pos (by rw [hbit]; rfl), if_pos hbit, if_pos (by simp; omega), name_eq h1 h6]
        simp only [Option.bind_some]
        rw [if_pos (by simp; omega), wrap_i64 (by omega) (by omega), List.append_assoc]
        rfl
      · rw [if_neg (by rw [beq_iff_eq]; omega), if_neg hbit, wrap_i64 (by omega) (by omega), List.append_nil]
        rfl
    · unfold hq_names_L1
      simp only []
      rw [if_neg (by simp)]
  rw [show iter (hq_names_L1 (n : Int) (b : Int)) ([], 0) = _ from hi]
  rfl
inductive Ex where
  | nm (k : Nat)
  | any
  | set (neg : Bool) (b : Nat)
  | star (a : Ex)
  | plus (a : Ex)
  | opt (a : Ex)
  | alt (a b : Ex)
  | seq (a b : Ex)
def nx (l : List Int) (i : Nat) : Nat × Nat := if l.length ≤ i then (0, i) else ((l.getD i 0).toNat, i + 1)
def rdE : Nat → List Int → Nat → Ex × Nat
  | 0, l, i => (.nm (nx l i).1, (nx l i).2)
  | d + 1, l, i =>
    if (nx l i).1 % 12 = 4 then (.any, (nx l i).2)
    else if (nx l i).1 % 12 = 5 then (.set false (nx l (nx l i).2).1, (nx l (nx l i).2).2)
    else if (nx l i).1 % 12 = 6 then (.set true (nx l (nx l i).2).1, (nx l (nx l i).2).2)
    else if (nx l i).1 % 12 = 7 then (.star (rdE d l (nx l i).2).1, (rdE d l (nx l i).2).2)
    else if (nx l i).1 % 12 = 8 then (.plus (rdE d l (nx l i).2).1, (rdE d l (nx l i).2).2)
    else if (nx l i).1 % 12 = 9 then (.opt (rdE d l (nx l i).2).1, (rdE d l (nx l i).2).2)
    else if (nx l i).1 % 12 = 10 then (.alt (rdE d l (nx l i).2).1 (rdE d l (rdE d l (nx l i).2).2).1, (rdE d l (rdE d l (nx l i).2).2).2)
    else if (nx l i).1 % 12 = 11 then (.seq (rdE d l (nx l i).2).1 (rdE d l (rdE d l (nx l i).2).2).1, (rdE d l (rdE d l (nx l i).2).2).2)
    else (.nm (nx l i).1, (nx l i).2)
def exT (n : Nat) : Ex → List UInt8
  | .nm k => [nmB n k]
  | .any => [46]
  | .set neg b => (if neg then [91, 94] else [91]) ++ namesT n b n ++ [93]
  | .star a => [40] ++ exT n a ++ [41, 42]
  | .plus a => [40] ++ exT n a ++ [41, 43]
  | .opt a => [40] ++ exT n a ++ [41, 63]
  | .alt a b => [40] ++ exT n a ++ [124] ++ exT n b ++ [41]
  | .seq a b => exT n a ++ [32] ++ exT n b
def Ex.D : Ex → Nat
  | .star a => a.D + 1
  | .plus a => a.D + 1
  | .opt a => a.D + 1
  | .alt a b => max a.D b.D + 1
  | .seq a b => max a.D b.D + 1
  | .set _ _ => 1
  | .any => 1
  | .nm _ => 0
def lenD : Nat → Nat
  | 0 => 1
  | d + 1 => 2 * lenD d + 13
theorem lenD_mono (d : Nat) : lenD d ≤ lenD (d + 1) := by simp only [lenD]; omega
theorem lenD_le : ∀ {a b : Nat}, a ≤ b → lenD a ≤ lenD b := fun {a b} h => by
  induction b with
  | zero => cases Nat.le_zero.mp h; exact Nat.le_refl _
  | succ b ih =>
    rcases Nat.lt_or_ge b a with h1 | h1
    · rw [show a = b + 1 by omega]; exact Nat.le_refl _
    · exact Nat.le_trans (ih h1) (lenD_mono b)
theorem exT_len {n : Nat} (h6 : n ≤ 6) : ∀ (e : Ex), (exT n e).length ≤ lenD e.D
  | .nm k => Nat.le_refl _
  | .any => by simp [exT, Ex.D, lenD]
  | .set neg b => by
    have := namesT_len n b n
    simp only [exT, Ex.D, lenD, List.length_append]
    split <;> simp only [List.length_cons, List.length_nil] <;> omega
  | .star a => by have := exT_len h6 a; simp only [exT, Ex.D, lenD, List.length_append, List.length_cons, List.length_nil]; omega
  | .plus a => by have := exT_len h6 a; simp only [exT, Ex.D, lenD, List.length_append, List.length_cons, List.length_nil]; omega
  | .opt a => by have := exT_len h6 a; simp only [exT, Ex.D, lenD, List.length_append, List.length_cons, List.length_nil]; omega
  | .alt a b => by
    have h1 := exT_len h6 a; have h2 := exT_len h6 b
    have h3 := lenD_le (Nat.le_max_left a.D b.D); have h4 := lenD_le (Nat.le_max_right a.D b.D)
    simp only [exT, Ex.D, lenD, List.length_append, List.length_cons, List.length_nil]; omega
  | .seq a b => by
    have h1 := exT_len h6 a; have h2 := exT_len h6 b
    have h3 := lenD_le (Nat.le_max_left a.D b.D); have h4 := lenD_le (Nat.le_max_right a.D b.D)
    simp only [exT, Ex.D, lenD, List.length_append, List.length_cons, List.length_nil]; omega
theorem rdE_D : ∀ (d : Nat) (l : List Int) (i : Nat), (rdE d l i).1.D ≤ d
  | 0, _, _ => Nat.le_refl _
  | d + 1, l, i => by
    have h1 := rdE_D d l (nx l i).2
    have h2 := rdE_D d l (rdE d l (nx l i).2).2
    simp only [rdE]
    repeat (split; · simp only [Ex.D]; omega)
    simp only [Ex.D]; omega
def Sm (l : List Int) : Prop := ∀ x ∈ l, 0 ≤ x ∧ x < 256
theorem nx_eq {l : List Int} (hl : l.length ≤ 1000) (hs : Sm l) {i : Nat} (hi : i ≤ l.length) : hq_reader_next_v2 l (i : Int) = some (((nx l i).1 : Int), ((nx l i).2 : Int)) ∧ (nx l i).1 < 256 ∧ (nx l i).2 ≤ l.length := by
  unfold hq_reader_next_v2 nx
  by_cases h : l.length ≤ i
  · rw [if_pos (by simp; omega), if_pos h]
    exact ⟨rfl, by show 0 < 256; decide, hi⟩
  · have hx := hs _ (getD_mem' (d := 0) (show i < l.length by omega))
    have e : IntKind.i64.wrap ((IntKind.i64.wrap ((i : Int) + 1)) - 1) = (i : Int) := by
      rw [wrap_i64 (x := (i : Int) + 1) (by omega) (by omega), wrap_i64 (by omega) (by omega)]; omega
    rw [if_neg (by simp; omega), if_neg h, e, if_pos ⟨by omega, by omega⟩, Int.toNat_natCast, wrap_i64 (by omega) (by omega), wrap_i64 (by omega) (by omega)]
    refine ⟨?_, by simp only []; omega, by simp only []; omega⟩
    simp only [Option.some.injEq, Prod.mk.injEq]
    exact ⟨by omega, rfl⟩
theorem expr_eq {n : Nat} (h1 : 1 ≤ n) (h6 : n ≤ 6) {l : List Int} (hl : l.length ≤ 1000) (hs : Sm l) : ∀ (d f i : Nat), d ≤ 3 → d < f → i ≤ l.length →
    hq_expr_v1 f (n : Int) (d : Int) l (i : Int) = some (exT n (rdE d l i).1, ((rdE d l i).2 : Int)) ∧ (rdE d l i).2 ≤ l.length
  | _, 0, _, _, h, _ => by omega
  | d, f + 1, i, h3, hf, hi => by
    obtain ⟨e1, b1, c1⟩ := nx_eq hl hs hi
    show hq_expr_v1_F (hq_expr_v1 f) (n : Int) (d : Int) l (i : Int) = _ ∧ _
    unfold hq_expr_v1_F
    rw [e1]
    simp only [Option.bind_some]
    have nm : hq_name (n : Int) ((nx l i).1 : Int) = some [nmB n (nx l i).1] := name_eq h1 h6
    cases d with
    | zero =>
      rw [if_pos (by decide), nm]
      exact ⟨rfl, c1⟩
    | succ d =>
      obtain ⟨e2, b2, c2⟩ := nx_eq hl hs c1
      obtain ⟨e3, c3⟩ := expr_eq h1 h6 hl hs d f (nx l i).2 (by omega) (by omega) c1
      obtain ⟨e4, c4⟩ := expr_eq h1 h6 hl hs d f (rdE d l (nx l i).2).2 (by omega) (by omega) c3
      have hw : IntKind.i64.wrap (((d + 1 : Nat) : Int) - 1) = (d : Int) := by rw [wrap_i64 (by omega) (by omega)]; omega
      have em : Int.tmod ((nx l i).1 : Int) (12 : Int) = (((nx l i).1 % 12 : Nat) : Int) := rfl
      have hk : ∀ k : Nat, ((((nx l i).1 % 12 : Nat) : Int) == (k : Int)) = decide ((nx l i).1 % 12 = k) := fun k => by
        by_cases h : (nx l i).1 % 12 = k
        · rw [decide_eq_true h, beq_iff_eq, h]
        · rw [decide_eq_false h, beq_eq_false_iff_ne]; omega
      have k4 := hk 4; have k5 := hk 5; have k6 := hk 6; have k7 := hk 7; have k8 := hk 8; have k9 := hk 9; have k10 := hk 10; have k11 := hk 11
      have L1 : (exT n (rdE d l (nx l i).2).1).length ≤ 1000 := Nat.le_trans (exT_len h6 _) (Nat.le_trans (lenD_le (Nat.le_trans (rdE_D d l _) (show d ≤ 3 by omega))) (by decide))
      have L2 : (exT n (rdE d l (rdE d l (nx l i).2).2).1).length ≤ 1000 := Nat.le_trans (exT_len h6 _) (Nat.le_trans (lenD_le (Nat.le_trans (rdE_D d l _) (show d ≤ 3 by omega))) (by decide))
      have ln := namesT_len n (nx l (nx l i).2).1 n
      rw [if_neg (by simp), if_pos (by decide), em]
      simp only [rdE]
      rw [show ((((nx l i).1 % 12 : Nat) : Int) == (4 : Int)) = _ from k4, show ((((nx l i).1 % 12 : Nat) : Int) == (5 : Int)) = _ from k5, show ((((nx l i).1 % 12 : Nat) : Int) == (6 : Int)) = _ from k6, show ((((nx l i).1 % 12 : Nat) : Int) == (7 : Int)) = _ from k7,
        show ((((nx l i).1 % 12 : Nat) : Int) == (8 : Int)) = _ from k8, show ((((nx l i).1 % 12 : Nat) : Int) == (9 : Int)) = _ from k9, show ((((nx l i).1 % 12 : Nat) : Int) == (10 : Int)) = _ from k10, show ((((nx l i).1 % 12 : Nat) : Int) == (11 : Int)) = _ from k11]
      simp only [decide_eq_true_eq, hw, e2, e3, Option.bind_some, e4, wrap_u8 (x := ((nx l (nx l i).2).1 : Int)) (by omega) (by omega), names_eq h1 h6 b2, nm]
      by_cases h4 : (nx l i).1 % 12 = 4
      · rw [if_pos h4, if_pos h4]; exact ⟨rfl, c1⟩
      rw [if_neg h4, if_neg h4]
      by_cases h5 : (nx l i).1 % 12 = 5
      · rw [if_pos h5, if_pos h5, if_pos (by simp; omega), if_pos (by simp; omega)]; exact ⟨rfl, c2⟩
      rw [if_neg h5, if_neg h5]
      by_cases h6' : (nx l i).1 % 12 = 6
      · rw [if_pos h6', if_pos h6', if_pos (by simp; omega), if_pos (by simp; omega)]; exact ⟨rfl, c2⟩
      rw [if_neg h6', if_neg h6']
      by_cases h7 : (nx l i).1 % 12 = 7
      · rw [if_pos h7, if_pos h7, if_pos (by simp; omega), if_pos (by simp; omega)]; exact ⟨rfl, c3⟩
      rw [if_neg h7, if_neg h7]
      by_cases h8 : (nx l i).1 % 12 = 8
      · rw [if_pos h8, if_pos h8, if_pos (by simp; omega), if_pos (by simp; omega)]; exact ⟨rfl, c3⟩
      rw [if_neg h8, if_neg h8]
      by_cases h9 : (nx l i).1 % 12 = 9
      · rw [if_pos h9, if_pos h9, if_pos (by simp; omega), if_pos (by simp; omega)]; exact ⟨rfl, c3⟩
      rw [if_neg h9, if_neg h9]
      by_cases h10 : (nx l i).1 % 12 = 10
      · rw [if_pos h10, if_pos h10, if_pos (by simp; omega), if_pos (by simp; omega), if_pos (by simp; omega), if_pos (by simp; omega)]; exact ⟨rfl, c4⟩
      rw [if_neg h10, if_neg h10]
      by_cases h11 : (nx l i).1 % 12 = 11
      · rw [if_pos h11, if_pos h11, if_pos (by simp; omega), if_pos (by simp; omega)]; exact ⟨rfl, c4⟩
      rw [if_neg h11, if_neg h11]
      exact ⟨rfl, c1⟩
def exO (l : List Int) : Option Ex := if l.length = 0 then none else some (rdE 3 (l.take 30) 0).1
def exOT (n : Nat) : Option Ex → List UInt8
  | none => []
  | some e => exT n e
theorem exOT_len {n : Nat} (h6 : n ≤ 6) (l : List Int) : (exOT n (exO l)).length ≤ 1000 := by
  unfold exO
  split
  · exact Nat.zero_le _
  · exact Nat.le_trans (exT_len h6 _) (Nat.le_trans (lenD_le (rdE_D 3 _ _)) (by decide))
theorem Expr_eq {n : Nat} (h1 : 1 ≤ n) (h6 : n ≤ 6) {l : List Int} (hs : Sm l) : hq_Expr (n : Int) l = some (exOT n (exO l)) := by
  unfold hq_Expr exO
  by_cases h : l.length = 0
  · rw [if_pos (by rw [h]; rfl), if_pos h]; rfl
  · rw [if_neg (by rw [beq_iff_eq]; omega), if_neg h, if_pos ⟨by omega, by omega, by omega⟩]
    have et : (l.take (min (l.length : Int) 30).toNat).drop (0 : Int).toNat = l.take 30 := by
      show (l.take (min (l.length : Int) 30).toNat).drop 0 = _
      rw [List.drop_zero]
      by_cases h30 : l.length ≤ 30
      · rw [show (min (l.length : Int) 30).toNat = l.length by omega, List.take_of_length_le (Nat.le_refl _), List.take_of_length_le h30]
      · rw [show (min (l.length : Int) 30).toNat = 30 by omega]
    rw [et, show hq_expr_v1 1000 (n : Int) 3 (l.take 30) 0 = _ from (expr_eq h1 h6 (l := l.take 30) (by rw [List.length_take]; omega) (fun x hx => hs x (List.mem_of_mem_take hx)) 3 1000 0 (by omega) (by omega) (by omega)).1]
    rfl
end Go.Proofs.Ytjfjigknkhgkdaa.T
