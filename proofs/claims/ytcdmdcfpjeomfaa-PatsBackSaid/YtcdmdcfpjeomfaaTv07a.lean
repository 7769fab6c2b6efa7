/- Signs: the program's and the document's are one. -/
import Derived.Test.YtcdmdcfpjeomfaaTvT07xa1
import Derived.Test.YtcdmdcfpjeomfaaTvT07xb
import Derived.Test.YtcdmdcfpjeomfaaTvYb
import Derived.KernelRfl
namespace Go.Proofs.Ytcdmdcfpjeomfaa.T
open Go Go.Tv Go.Proofs

def Bytes (b : List Int) : Prop := ∀ x ∈ b, 0 ≤ x ∧ x ≤ 255
theorem Bytes.get {b : List Int} (h : Bytes b) (i : Nat) : 0 ≤ b.getD i 0 ∧ b.getD i 0 ≤ 255 := by
  rcases Nat.lt_or_ge i b.length with hi | hi
  · exact h _ (getD_mem' hi)
  · rw [List.getD_eq_getElem?_getD, List.getElem?_eq_none hi]; simp

/-- How many bytes a sign that begins so has. -/
def lenS (c : Int) : Nat := if c < 128 then 1 else if 194 ≤ c ∧ c ≤ 223 then 2 else if 224 ≤ c ∧ c ≤ 239 then 3 else if 240 ≤ c ∧ c ≤ 244 then 4 else 0
def loS (c : Int) : Int := if c = 224 then 160 else if c = 240 then 144 else 128
def hiS (c : Int) : Int := if c = 237 then 159 else if c = 244 then 143 else 191

theorem need_eq (c : Int) : scal_need c = some (if lenS c ≤ 1 then ((lenS c : Int), 0, 0) else ((lenS c : Int), loS c, hiS c)) := by
  unfold scal_need lenS loS hiS
  by_cases h1 : c < 128
  · rw [if_pos (by simpa using h1), if_pos h1, if_pos (by omega)]; rfl
  rw [if_neg (by simpa using h1), if_neg h1]
  by_cases h2 : c < 194
  · rw [if_pos (by simpa using h2), if_neg (c := 194 ≤ c ∧ c ≤ 223) (by omega), if_neg (c := 224 ≤ c ∧ c ≤ 239) (by omega), if_neg (c := 240 ≤ c ∧ c ≤ 244) (by omega)]; rfl
  rw [if_neg (by simpa using h2)]
  by_cases h3 : c > 244
  · rw [if_neg (c := 194 ≤ c ∧ c ≤ 223) (by omega), if_neg (c := 224 ≤ c ∧ c ≤ 239) (by omega), if_neg (c := 240 ≤ c ∧ c ≤ 244) (by omega)]
    simp only [Option.bind_some]
    rw [if_pos (by simpa using h3)]; rfl
  simp only [Option.bind_some]
  rw [if_neg (by simpa using h3)]
  by_cases h4 : c < 224
  · rw [if_pos (by simpa using h4), if_pos (c := 194 ≤ c ∧ c ≤ 223) (by omega), if_neg (by omega), if_neg (c := c = 224) (by omega), if_neg (c := c = 240) (by omega), if_neg (c := c = 237) (by omega), if_neg (c := c = 244) (by omega)]; rfl
  rw [if_neg (by simpa using h4), if_neg (c := 194 ≤ c ∧ c ≤ 223) (by omega)]
  by_cases h5 : c ≤ 239
  · rw [if_pos (c := 224 ≤ c ∧ c ≤ 239) (by omega), if_neg (c := (3 : Nat) ≤ 1) (by omega), if_neg (c := c = 240) (by omega), if_neg (c := c = 244) (by omega)]
    by_cases h6 : c = 224
    · subst h6; rfl
    rw [if_neg (by simpa using h6), if_neg h6]
    by_cases h7 : c = 237
    · subst h7; rfl
    rw [if_neg (by simpa using h7), if_neg h7, if_pos (by simp only [decide_eq_true_eq]; omega)]; rfl
  rw [if_neg (c := 224 ≤ c ∧ c ≤ 239) (by omega), if_pos (c := 240 ≤ c ∧ c ≤ 244) (by omega), if_neg (c := (4 : Nat) ≤ 1) (by omega), if_neg (c := c = 224) (by omega), if_neg (c := c = 237) (by omega),
    if_neg (by simp only [beq_iff_eq]; omega), if_neg (by simp only [beq_iff_eq]; omega), if_neg (by simp only [decide_eq_true_eq]; omega)]
  by_cases h6 : c = 240
  · subst h6; rfl
  rw [if_neg (by simpa using h6), if_neg h6]
  by_cases h7 : c = 244
  · subst h7; rfl
  rw [if_neg (by simpa using h7), if_neg h7]; rfl

theorem length_eq (c : Int) : stanzaref01_length c = some (lenS c : Int) := by
  unfold stanzaref01_length lenS
  by_cases h1 : c < 128
  · rw [if_pos (by simpa using h1), if_pos h1]; rfl
  rw [if_neg (by simpa using h1), if_neg h1]
  have k1 : (if decide (c ≥ 194) = true then some (decide (c ≤ 223)) else some false) = some (decide (194 ≤ c ∧ c ≤ 223)) := by
    by_cases h : c ≥ 194
    · rw [if_pos (by simpa using h)]; congr 1; simp only [decide_eq_decide]; omega
    · rw [if_neg (by simpa using h)]; congr 1; rw [decide_eq_false]; omega
  have k2 : (if decide (c ≥ 224) = true then some (decide (c ≤ 239)) else some false) = some (decide (224 ≤ c ∧ c ≤ 239)) := by
    by_cases h : c ≥ 224
    · rw [if_pos (by simpa using h)]; congr 1; simp only [decide_eq_decide]; omega
    · rw [if_neg (by simpa using h)]; congr 1; rw [decide_eq_false]; omega
  have k3 : (if decide (c ≥ 240) = true then some (decide (c ≤ 244)) else some false) = some (decide (240 ≤ c ∧ c ≤ 244)) := by
    by_cases h : c ≥ 240
    · rw [if_pos (by simpa using h)]; congr 1; simp only [decide_eq_decide]; omega
    · rw [if_neg (by simpa using h)]; congr 1; rw [decide_eq_false]; omega
  rw [k1, Option.bind_some]
  by_cases h2 : 194 ≤ c ∧ c ≤ 223
  · rw [if_pos (decide_eq_true h2), if_pos h2]; rfl
  rw [if_neg (by simpa using h2), if_neg h2, k2, Option.bind_some]
  by_cases h3 : 224 ≤ c ∧ c ≤ 239
  · rw [if_pos (decide_eq_true h3), if_pos h3]; rfl
  rw [if_neg (by simpa using h3), if_neg h3, k3, Option.bind_some]
  by_cases h4 : 240 ≤ c ∧ c ≤ 244
  · rw [if_pos (decide_eq_true h4), if_pos h4]; rfl
  rw [if_neg (by simpa using h4), if_neg h4]; rfl

theorem lenS_le (c : Int) : lenS c ≤ 4 := by unfold lenS; split; omega; split; omega; split; omega; split <;> omega

/-- May the byte k behind a sign's first one stand there? -/
def okS (b : List Int) (a k : Nat) : Bool := decide (a + k < b.length ∧ (if k = 1 then loS (b.getD a 0) else 128) ≤ b.getD (a + k) 0 ∧ b.getD (a + k) 0 ≤ (if k = 1 then hiS (b.getD a 0) else 191))
/-- How many may, at most those that are needed. -/
def cntS (b : List Int) (a : Nat) : Nat := firstN (fun j => !okS b a (j + 1)) (lenS (b.getD a 0) - 1)
def numS (b : List Int) (a : Nat) : Nat → Int
  | 0 => b.getD a 0 % ((2 ^ (7 - lenS (b.getD a 0)) : Nat) : Int)
  | k + 1 => numS b a k * 64 + (b.getD (a + (k + 1)) 0 - 128)
/-- The sign at a place: its number, how many bytes it has. -/
def oneS (b : List Int) (a : Nat) : Int × Nat :=
  if lenS (b.getD a 0) ≤ 1 then (if lenS (b.getD a 0) = 1 then b.getD a 0 else 65533, 1)
  else if cntS b a = lenS (b.getD a 0) - 1 then (numS b a (cntS b a), cntS b a + 1) else (65533, cntS b a + 1)

theorem cntS_le (b : List Int) (a : Nat) : cntS b a ≤ lenS (b.getD a 0) - 1 := firstN_le _ _
theorem cntS_ok {b : List Int} {a k : Nat} (h1 : 1 ≤ k) (h2 : k ≤ cntS b a) : okS b a k = true := by
  have := firstN_lt (fun j => !okS b a (j + 1)) (lenS (b.getD a 0) - 1) (j := k - 1) (by unfold cntS at h2; omega)
  rw [show k - 1 + 1 = k by omega] at this
  simpa using this
theorem cntS_not {b : List Int} {a : Nat} (h : cntS b a < lenS (b.getD a 0) - 1) : okS b a (cntS b a + 1) = false := by
  have := firstN_at (fun j => !okS b a (j + 1)) (lenS (b.getD a 0) - 1) h
  simp only [Bool.not_eq_true'] at this
  exact this
theorem okS_in {b : List Int} {a k : Nat} (h : okS b a k = true) : a + k < b.length ∧ 128 ≤ b.getD (a + k) 0 ∧ b.getD (a + k) 0 ≤ 191 := by
  unfold okS at h
  simp only [decide_eq_true_eq] at h
  have h1 : 128 ≤ loS (b.getD a 0) := by unfold loS; split; omega; split <;> omega
  have h2 : hiS (b.getD a 0) ≤ 191 := by unfold hiS; split; omega; split <;> omega
  split at h <;> omega
theorem numS_in {b : List Int} {a : Nat} (hl : 2 ≤ lenS (b.getD a 0)) : ∀ k, k ≤ cntS b a → 0 ≤ numS b a k ∧ numS b a k < 32 * ((64 ^ k : Nat) : Int)
  | 0, _ => by
    have h4 := lenS_le (b.getD a 0)
    simp only [numS]
    have hp : (2 : Nat) ^ (7 - lenS (b.getD a 0)) ≤ 2 ^ 5 := Nat.pow_le_pow_right (by decide) (by omega)
    have hp0 : 0 < (2 : Nat) ^ (7 - lenS (b.getD a 0)) := Nat.pow_pos (by decide)
    have e5 : (2 : Nat) ^ 5 = 32 := by decide
    have := Int.emod_nonneg (b.getD a 0) (show ((2 ^ (7 - lenS (b.getD a 0)) : Nat) : Int) ≠ 0 by omega)
    have := Int.emod_lt_of_pos (b.getD a 0) (show 0 < ((2 ^ (7 - lenS (b.getD a 0)) : Nat) : Int) by omega)
    simp only [Nat.pow_zero]
    omega
  | k + 1, hk => by
    have ih := numS_in hl k (by omega)
    have ho := okS_in (cntS_ok (b := b) (a := a) (k := k + 1) (by omega) hk)
    simp only [numS]
    have e : ((64 ^ (k + 1) : Nat) : Int) = ((64 ^ k : Nat) : Int) * 64 := by rw [Nat.pow_succ]; omega
    rw [e]
    omega
theorem cntS_3 (b : List Int) (a : Nat) : cntS b a ≤ 3 := by have := cntS_le b a; have := lenS_le (b.getD a 0); omega

section
variable {b : List Int} (hb : Bytes b) (hl : b.length ≤ 1000000)
include hb hl

omit hb in
theorem one_L1 {a : Nat} (ha : a < b.length) (h2 : 2 ≤ lenS (b.getD a 0)) :
    iter (scal_One_L1 b (a : Int) (lenS (b.getD a 0) : Int)) (loS (b.getD a 0), hiS (b.getD a 0), (1 : Int), numS b a 0, (1 : Int)) =
      some (if cntS b a = lenS (b.getD a 0) - 1 then Sum.inl (((cntS b a + 1 : Nat) : Int), numS b a (cntS b a)) else Sum.inr ((65533 : Int), ((a : Int), ((cntS b a + 1 : Nat) : Int)))) := by
  have hc := cntS_le b a
  have hc3 := cntS_3 b a
  have h4 := lenS_le (b.getD a 0)
  have hi := iter_count (body := scal_One_L1 b (a : Int) (lenS (b.getD a 0) : Int)) (fun j => (if j = 0 then loS (b.getD a 0) else 128, if j = 0 then hiS (b.getD a 0) else 191, ((j + 1 : Nat) : Int), numS b a j, ((j + 1 : Nat) : Int))) (cntS b a)
    (r := if cntS b a = lenS (b.getD a 0) - 1 then Sum.inl (((cntS b a + 1 : Nat) : Int), numS b a (cntS b a)) else Sum.inr ((65533 : Int), ((a : Int), ((cntS b a + 1 : Nat) : Int)))) (fun j hj => by
      have ho := cntS_ok (b := b) (a := a) (k := j + 1) (by omega) (by omega)
      have hin := okS_in ho
      have hnum := numS_in h2 j (by omega)
      unfold okS at ho
      simp only [decide_eq_true_eq, Nat.add_eq_right] at ho
      have hk64 : ((64 ^ j : Nat) : Int) ≤ 4096 := by
        have : (64 : Nat) ^ j ≤ 64 ^ 2 := Nat.pow_le_pow_right (by decide) (by omega)
        omega
      have e0 : IntKind.i64.wrap ((a : Int) + ((j + 1 : Nat) : Int)) = ((a + (j + 1) : Nat) : Int) := by rw [wrap_i64 (by omega) (by omega)]; omega
      have e1 : IntKind.i64.wrap (((j + 1 : Nat) : Int) + 1) = ((j + 1 + 1 : Nat) : Int) := by rw [wrap_i64 (by omega) (by omega)]; omega
      have e2 : bitsOf .and .u8 (b.getD (a + (j + 1)) 0) 63 = b.getD (a + (j + 1)) 0 - 128 := by
        have := and_u8 (x := b.getD (a + (j + 1)) 0) (by omega) (by omega) (k := 6) (by decide)
        have e63 : ((2 ^ 6 - 1 : Nat) : Int) = 63 := by decide
        have e64 : ((2 ^ 6 : Nat) : Int) = 64 := by decide
        rw [e63, e64] at this
        omega
      have e3 : IntKind.i32.wrap (b.getD (a + (j + 1)) 0 - 128) = b.getD (a + (j + 1)) 0 - 128 := wrap_i32 (by omega) (by omega)
      have e4 : bitsOf .or .i32 (IntKind.i32.wrap (numS b a j * 2 ^ (min (6 : Int).toNat IntKind.i32.bits))) (b.getD (a + (j + 1)) 0 - 128) = numS b a (j + 1) := by
        have e64 : ((2 ^ 6 : Nat) : Int) = 64 := by decide
        have e64' : (2 : Int) ^ (min (6 : Int).toNat IntKind.i32.bits) = 64 := by decide
        have := or_i32 (a := numS b a j) (y := b.getD (a + (j + 1)) 0 - 128) (k := 6) hnum.1 (by omega) (by omega) (by omega)
        rw [e64] at this
        rw [e64', wrap_i32 (by omega) (by omega), this]
        rfl
      simp only [scal_One_L1, e0, e1, Int.toNat_natCast, e2, e3, e4]
      rw [if_pos (by simp only [decide_eq_true_eq]; omega), if_neg (by simp only [decide_eq_true_eq]; omega), if_pos ⟨by omega, by omega⟩, if_neg (by simp only [decide_eq_true_eq]; omega), if_pos ⟨by omega, by omega⟩]
      simp only [Option.bind_some]
      rw [if_neg (by simp only [decide_eq_true_eq]; omega), if_pos (by decide), if_pos ⟨by omega, by omega⟩]
      simp only [Nat.add_one_ne_zero, if_false]) (by
      have e0 : IntKind.i64.wrap ((a : Int) + ((cntS b a + 1 : Nat) : Int)) = ((a + (cntS b a + 1) : Nat) : Int) := by rw [wrap_i64 (by omega) (by omega)]; omega
      simp only [scal_One_L1, e0, Int.toNat_natCast]
      by_cases q : cntS b a = lenS (b.getD a 0) - 1
      · rw [if_neg (by simp only [decide_eq_true_eq]; omega), if_pos q]
      · have hno := cntS_not (b := b) (a := a) (by omega)
        rw [if_pos (by simp only [decide_eq_true_eq]; omega), if_neg q]
        unfold okS at hno
        simp only [decide_eq_false_iff_not, Nat.add_eq_right] at hno
        by_cases q1 : a + (cntS b a + 1) < b.length
        · rw [if_neg (by simp only [decide_eq_true_eq]; omega), if_pos ⟨by omega, by omega⟩]
          by_cases q2 : b.getD (a + (cntS b a + 1)) 0 < (if cntS b a = 0 then loS (b.getD a 0) else 128)
          · rw [if_pos (by simpa using q2)]; rfl
          · rw [if_neg (by simpa using q2), if_pos ⟨by omega, by omega⟩]
            have : decide (b.getD (a + (cntS b a + 1)) 0 > (if cntS b a = 0 then hiS (b.getD a 0) else 191)) = true := by simp only [decide_eq_true_eq]; omega
            rw [this]; rfl
        · rw [if_pos (by simp only [decide_eq_true_eq]; omega)]; rfl)
  exact hi

theorem scalOne_eq {a : Nat} (ha : a < b.length) : scal_One b (a : Int) = some ((oneS b a).1, ((a : Int), ((oneS b a).2 : Int))) := by
  have hc := hb.get a
  have h4 := lenS_le (b.getD a 0)
  unfold scal_One oneS
  rw [if_neg (by simp only [decide_eq_true_eq]; omega)]
  simp only [Option.bind_some]
  rw [if_neg (by simp only [decide_eq_true_eq]; omega), if_pos ⟨by omega, by omega⟩, Int.toNat_natCast, need_eq]
  simp only [Option.bind_some]
  by_cases h1 : lenS (b.getD a 0) ≤ 1
  · rw [if_pos h1, if_pos h1]
    simp only
    rw [if_pos (by simp only [decide_eq_true_eq]; omega)]
    by_cases h2 : lenS (b.getD a 0) = 1
    · rw [if_pos (by simp only [beq_iff_eq]; omega), if_pos ⟨by omega, by omega⟩, if_pos h2, wrap_i32 (by omega) (by omega)]; rfl
    · rw [if_neg (by simp only [beq_iff_eq]; omega), if_neg h2]; rfl
  · rw [if_neg h1, if_neg h1]
    simp only
    have e0 : bitsOf .and .i32 (IntKind.i32.wrap (b.getD a 0)) (Int.fdiv (127 : Int) (2 ^ (min (lenS (b.getD a 0) : Int).toNat IntKind.i32.bits))) = numS b a 0 := by
      have e1 : Int.fdiv (127 : Int) (2 ^ (min (lenS (b.getD a 0) : Int).toNat IntKind.i32.bits)) = ((2 ^ (7 - lenS (b.getD a 0)) - 1 : Nat) : Int) := by
        generalize lenS (b.getD a 0) = n at h1 h4
        have : n = 2 ∨ n = 3 ∨ n = 4 := by omega
        rcases this with rfl | rfl | rfl <;> decide
      rw [e1, wrap_i32 (by omega) (by omega), and_i32 hc.1 (by omega) (by omega)]
      rfl
    rw [if_neg (by simp only [decide_eq_true_eq]; omega), if_pos ⟨by omega, by omega⟩, if_pos (by omega), e0, one_L1 hl ha (by omega)]
    simp only [Option.bind_some]
    by_cases q : cntS b a = lenS (b.getD a 0) - 1
    · rw [if_pos q, if_pos q]
    · rw [if_neg q, if_neg q]
end
end Go.Proofs.Ytcdmdcfpjeomfaa.T
