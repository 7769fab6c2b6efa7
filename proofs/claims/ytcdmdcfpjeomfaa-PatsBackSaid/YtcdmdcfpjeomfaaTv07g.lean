/- Patterns: any text, any words. -/
import Derived.Test.YtcdmdcfpjeomfaaTv07f
import Derived.Test.YtcdmdcfpjeomfaaTvT07xPatsTexts
import Derived.Test.YtcdmdcfpjeomfaaTvT07xPatsWords
import Derived.Test.YtcdmdcfpjeomfaaTvV
namespace Go.Proofs.Ytcdmdcfpjeomfaa.T
open Go Go.Tv Go.Proofs

noncomputable def sgns (b : List Int) : List Sgn := (scal_All b).getD []
def resT : Res → (List Pat × List Pat) × Int × Int
  | .inl p => (p, 0, 0)
  | .inr f => ((([] : List Pat), ([] : List Pat)), f)
noncomputable def parseT (t : List UInt8) : (List Pat × List Pat) × Int × Int :=
  if 4096 < t.length then ((([] : List Pat), ([] : List Pat)), 24, 4096) else resT (foldW (spl (sgns (numsOf t)) []) [] [])

theorem nums_bytes (t : List UInt8) : Bytes (numsOf t) := fun x hx => by
  unfold numsOf at hx
  obtain ⟨u, _, rfl⟩ := List.mem_map.mp hx
  have := u.toNat_lt
  omega
theorem nums_len (t : List UInt8) : (numsOf t).length = t.length := by unfold numsOf; rw [List.length_map]

theorem parse_both (t : List UInt8) : pats_Parse t = some (parseT t) ∧ stanzaref07_Parse t = some (parseT t) := by
  unfold pats_Parse stanzaref07_Parse parseT
  by_cases h : 4096 < t.length
  · rw [if_pos (by simp only [decide_eq_true_eq]; omega), if_pos h, if_pos (by simp only [decide_eq_true_eq]; omega)]
    exact ⟨rfl, rfl⟩
  rw [if_neg (by simp only [decide_eq_true_eq]; omega), if_neg h, if_neg (by simp only [decide_eq_true_eq]; omega)]
  have hl : (numsOf t).length ≤ 1000000 := by rw [nums_len]; omega
  obtain ⟨s, s1, s2, s3⟩ := all_same (nums_bytes t) hl
  have es : sgns (numsOf t) = s := by unfold sgns; rw [s1]; rfl
  have hs0 : Short ([] : List Pat) := fun q hq => by cases hq
  obtain ⟨r, a1, a2⟩ := pats_loop (s := s) (by omega) s.length 0 [] [] (by omega) (Nat.zero_le _) hs0 hs0 (by simp)
  obtain ⟨r', b1, b2⟩ := ref_ploop (s := s) (by omega) s.length 0 [] [] (by omega) (Nat.zero_le _) hs0 hs0 (by simp)
  have a1' : iter (pats_Parse_L2 s) (([] : List Pat), ([] : List Pat), (0 : Int)) = some r := a1
  have b1' : iter (stanzaref07_Parse_L4 s) (([] : List Pat), ([] : List Pat), (0 : Int)) = some r' := b1
  rw [s1, s2, es]
  simp only [Option.bind_some, a1', b1']
  subst a2
  subst b2
  rw [List.drop_zero]
  cases foldW (spl s []) [] [] with
  | inl p => exact ⟨rfl, rfl⟩
  | inr f => exact ⟨rfl, rfl⟩
theorem parse_eq (t : List UInt8) : pats_Parse t = some (parseT t) := (parse_both t).1
theorem refparse_eq (t : List UInt8) : stanzaref07_Parse t = some (parseT t) := (parse_both t).2

theorem parse_short (t : List UInt8) : Short (parseT t).1.1 ∧ Short (parseT t).1.2 ∧ (parseT t).1.1.length + (parseT t).1.2.length ≤ 256 := by
  have hs0 : Short ([] : List Pat) := fun q hq => by cases hq
  unfold parseT
  split
  · exact ⟨hs0, hs0, by simp⟩
  · cases h : foldW (spl (sgns (numsOf t)) []) [] [] with
    | inl p => exact foldW_short _ _ _ hs0 hs0 (by simp) h
    | inr f => exact ⟨hs0, hs0, by simp [resT]⟩

theorem samepat_self {A : List Pat} (hs : Short A) (hl : A.length ≤ 1000000) : stanzaref07_SamePatterns A A = some true := by
  unfold stanzaref07_SamePatterns
  rw [if_neg (by simp)]
  have hi := iter_count (body := stanzaref07_SamePatterns_L1 A A) (fun j => (j : Int)) A.length (r := Sum.inl ()) (fun j hj => by
    have h1 : stanzaref07_Same (A.getD j (([] : List Int), ([] : List Int))).1 (A.getD j (([] : List Int), ([] : List Int))).1 = some true := by
      rw [same_eq (by have := hs _ (getD_mem' (d := (([] : List Int), ([] : List Int))) hj); omega)]; simp
    simp only [stanzaref07_SamePatterns_L1, Int.toNat_natCast, h1, Option.bind_some]
    rw [if_pos (by simp only [decide_eq_true_eq]; omega), if_pos ⟨by omega, by omega⟩, wrap_i64 (by omega) (by omega)]
    simp only [Bool.not_true, Bool.false_eq_true, if_false]
    have hin : 0 ≤ (j : Int) ∧ (j : Int) < (A.length : Int) := ⟨by omega, by omega⟩
    simp only [if_pos hin, beq_self_eq_true, Bool.not_true, Option.bind_some, Bool.false_eq_true, if_false]
    rfl) (by
    simp only [stanzaref07_SamePatterns_L1]
    rw [if_neg (by simp)])
  have hi' : iter (stanzaref07_SamePatterns_L1 A A) (0 : Int) = some (Sum.inl ()) := hi
  rw [hi']
  rfl

theorem told_eq (t : List UInt8) : stanzalaw07_told t = some true := by
  obtain ⟨h1, h2, h3⟩ := parse_short t
  unfold stanzalaw07_told
  rw [parse_eq, refparse_eq]
  generalize parseT t = r at *
  obtain ⟨⟨A, B⟩, x, y⟩ := r
  simp only at h1 h2 h3
  simp only [Option.bind_some, samepat_self h1 (by omega), samepat_self h2 (by omega), beq_self_eq_true, if_true]

theorem awake : stanzalaw07_Awake = some true := by kernel_rfl

abbrev patsTexts_Ts : List Ty := [.str]
theorem patsTexts_all (x : Tup patsTexts_Ts) (hx : WfT patsTexts_Ts x) : stanzalaw07_PatsTexts x.1 = some true := by
  have _ := hx
  unfold stanzalaw07_PatsTexts
  rw [awake, told_eq]
  simp only [Option.bind_some, Bool.not_true, Bool.false_eq_true, if_false]
  split <;> rfl

abbrev patsWords_Ts : List Ty := [(.slice .str), (.int .u8)]
theorem patsWords_all (x : Tup patsWords_Ts) (hx : WfT patsWords_Ts x) : stanzalaw07_PatsWords x.1 x.2.1 = some true := by
  obtain ⟨words, gap, ⟨⟩⟩ := x
  have hgap : 0 ≤ gap := hx.2.1.1
  unfold stanzalaw07_PatsWords
  rw [awake]
  simp only [Option.bind_some, Bool.not_true, Bool.false_eq_true, if_false]
  have hm1 := Int.tmod_nonneg (4 : Int) hgap
  have hm2 := Int.tmod_lt_of_pos gap (show (0 : Int) < 4 by decide)
  obtain ⟨r, h1, h2⟩ := iter_rule (body := stanzalaw07_PatsWords_L1 words gap) (fun s => ∃ n : Nat, s.2 = (n : Int) ∧ n ≤ 301 ∧ s.1.length ≤ 110 * n) (fun s => 301 - s.2.toNat) (fun r => match r with | .inl _ => True | .inr b => b = true)
    (fun ⟨t, v⟩ ⟨n, e, q1, q2⟩ => by
      simp only at e q2
      subst e
      simp only [stanzalaw07_PatsWords_L1, Int.toNat_natCast, told_eq]
      by_cases c1 : n < words.length
      · rw [if_pos (by simp only [decide_eq_true_eq]; omega), if_pos ⟨by omega, by omega⟩]
        by_cases c2 : 300 < n
        · rw [if_pos (by simp only [decide_eq_true_eq]; omega)]
          exact .inr ⟨_, rfl, rfl⟩
        rw [if_neg (by simp only [decide_eq_true_eq]; omega)]
        simp only [Option.bind_some]
        by_cases c3 : 100 < (words.getD n ([] : List UInt8)).length
        · rw [if_pos (by simp only [decide_eq_true_eq]; omega)]
          exact .inr ⟨_, rfl, rfl⟩
        rw [if_neg (by simp only [decide_eq_true_eq]; omega)]
        have hg : (([([32] : List UInt8), ([10] : List UInt8), ([9, 13, 32] : List UInt8), ([32, 32] : List UInt8)] : List (List UInt8)).getD ((Int.tmod gap (4 : Int)).toNat) ([] : List UInt8)).length ≤ 3 := by
          have : (Int.tmod gap (4 : Int)).toNat = 0 ∨ (Int.tmod gap (4 : Int)).toNat = 1 ∨ (Int.tmod gap (4 : Int)).toNat = 2 ∨ (Int.tmod gap (4 : Int)).toNat = 3 := by omega
          rcases this with e | e | e | e <;> rw [e] <;> decide
        generalize ([([32] : List UInt8), ([10] : List UInt8), ([9, 13, 32] : List UInt8), ([32, 32] : List UInt8)] : List (List UInt8)).getD ((Int.tmod gap (4 : Int)).toNat) ([] : List UInt8) = g at hg
        rw [if_pos (by decide), if_pos ⟨by omega, by simp only [List.length_cons, List.length_nil]; omega⟩, if_pos (by simp only [List.length_cons, List.length_nil]; omega), if_pos (by omega), if_pos (by rw [List.length_append]; omega)]
        left
        refine ⟨(t ++ (words.getD n ([] : List UInt8) ++ g), ((n + 1 : Nat) : Int)), ?_, ⟨n + 1, rfl, by omega, by simp only [List.length_append]; omega⟩, by simp only; omega⟩
        rw [wrap_i64 (by omega) (by omega)]
        simp
      · rw [if_neg (by simp only [decide_eq_true_eq]; omega)]
        exact .inr ⟨_, rfl, trivial⟩)
    (s := (([] : List UInt8), (0 : Int))) ⟨0, rfl, by omega, by simp⟩
  rw [h1]
  simp only [Option.bind_some]
  match r, h2 with
  | .inl t, _ =>
    simp only [told_eq, Option.bind_some]
    split <;> rfl
  | .inr b, h => exact congrArg some h
end Go.Proofs.Ytcdmdcfpjeomfaa.T
