/- Patterns: a sign written, and read. -/
import Derived.Test.YtcdmdcfpjeomfaaTv07j
import Derived.Laws.Runes
namespace Go.Proofs.Ytcdmdcfpjeomfaa.T
set_option linter.unusedSimpArgs false
open Go Go.Tv Go.Proofs

def Val (c : Int) : Prop := (0 ≤ c ∧ c < 55296) ∨ (57343 < c ∧ c ≤ 1114111)

theorem lenS_in (c : Int) : (lenS c = 1 ∧ c < 128) ∨ (lenS c = 2 ∧ 194 ≤ c ∧ c ≤ 223) ∨ (lenS c = 3 ∧ 224 ≤ c ∧ c ≤ 239) ∨ (lenS c = 4 ∧ 240 ≤ c ∧ c ≤ 244) ∨ lenS c = 0 := by
  unfold lenS
  split
  · omega
  · split
    · omega
    · split
      · omega
      · split <;> omega

theorem okS_1 {b : List Int} {a : Nat} (h : okS b a 1 = true) : loS (b.getD a 0) ≤ b.getD (a + 1) 0 ∧ b.getD (a + 1) 0 ≤ hiS (b.getD a 0) := by
  unfold okS at h
  simp only [decide_eq_true_eq, if_true] at h
  exact h.2

/-- What is read is a sign. -/
theorem oneS_val {b : List Int} (hb : Bytes b) (a : Nat) (h : (oneS b a).1 ≠ 65533) : Val (oneS b a).1 := by
  have hc := hb.get a
  have ok := fun k (h1 : 1 ≤ k) (h2 : k ≤ cntS b a) => cntS_ok (b := b) (a := a) h1 h2
  unfold oneS at h ⊢
  rcases lenS_in (b.getD a 0) with ⟨hn, q⟩ | ⟨hn, q⟩ | ⟨hn, q⟩ | ⟨hn, q⟩ | hn
  · rw [hn]
    simp only [Nat.le_refl, if_true]
    unfold Val; omega
  · rw [hn] at h ⊢
    simp only [show ¬ (2 ≤ 1) by decide, if_false] at h ⊢
    by_cases h2 : cntS b a = 2 - 1
    · have o1 := okS_in (ok 1 (by decide) (by omega))
      have e : ((2 ^ (7 - 2) : Nat) : Int) = 32 := by decide
      rw [if_pos h2, h2]
      simp only [numS, hn, e, Nat.zero_add]
      unfold Val
      omega
    · rw [if_neg h2] at h; exact absurd rfl h
  · rw [hn] at h ⊢
    simp only [show ¬ (3 ≤ 1) by decide, if_false] at h ⊢
    by_cases h2 : cntS b a = 3 - 1
    · have o1 := okS_1 (ok 1 (by decide) (by omega))
      have o1' := okS_in (ok 1 (by decide) (by omega))
      have o2 := okS_in (ok 2 (by decide) (by omega))
      have e : ((2 ^ (7 - 3) : Nat) : Int) = 16 := by decide
      rw [if_pos h2, h2]
      simp only [numS, hn, e, Nat.zero_add, show 1 + 1 = 2 from rfl, show 2 + 1 = 3 from rfl]
      unfold loS hiS at o1
      unfold Val
      by_cases c1 : b.getD a 0 = 224
      · simp only [c1] at o1 ⊢
        have := o1.1
        simp only [if_true] at this
        omega
      · by_cases c2 : b.getD a 0 = 237
        · simp only [c2] at o1 ⊢
          have := o1.2
          simp only [if_true] at this
          omega
        · omega
    · rw [if_neg h2] at h; exact absurd rfl h
  · rw [hn] at h ⊢
    simp only [show ¬ (4 ≤ 1) by decide, if_false] at h ⊢
    by_cases h2 : cntS b a = 4 - 1
    · have o1 := okS_1 (ok 1 (by decide) (by omega))
      have o1' := okS_in (ok 1 (by decide) (by omega))
      have o2 := okS_in (ok 2 (by decide) (by omega))
      have o3 := okS_in (ok 3 (by decide) (by omega))
      have e : ((2 ^ (7 - 4) : Nat) : Int) = 8 := by decide
      rw [if_pos h2, h2]
      simp only [numS, hn, e, Nat.zero_add, show 1 + 1 = 2 from rfl, show 2 + 1 = 3 from rfl]
      unfold loS hiS at o1
      unfold Val
      by_cases c1 : b.getD a 0 = 240
      · simp only [c1] at o1 ⊢
        have := o1.1
        simp only [show ¬ ((240 : Int) = 224) by decide, if_true, if_false] at this
        omega
      · by_cases c2 : b.getD a 0 = 244
        · simp only [c2] at o1 ⊢
          have := o1.2
          simp only [show ¬ ((244 : Int) = 237) by decide, if_true, if_false] at this
          omega
        · omega
    · rw [if_neg h2] at h; exact absurd rfl h
  · rw [hn] at h
    exact absurd rfl h

/-- The bytes of a sign. -/
def enc (c : Int) : List Int :=
  if c < 128 then [c] else if c < 2048 then [192 + c / 64, 128 + c % 64] else if c < 65536 then [224 + c / 4096, 128 + c / 64 % 64, 128 + c % 64]
  else [240 + c / 262144, 128 + c / 4096 % 64, 128 + c / 64 % 64, 128 + c % 64]
theorem u8_nat {n : Nat} (h : n < 256) : ((UInt8.ofNat n).toNat : Int) = (n : Int) := by
  rw [UInt8.toNat_ofNat', Nat.mod_eq_of_lt h]
theorem val_valid {c : Int} (h : Val c) : Utf8.valid c = true := by
  rw [validRune_eq]
  unfold validRune
  exact decide_eq_true h
theorem enc1 (r : Int) (hv : Utf8.valid r = true) (h1 : r.toNat < 128) : (Utf8.encode r).data = #[UInt8.ofNat r.toNat] := by
  unfold Utf8.encode
  simp only [hv, if_true, h1]
theorem enc2 (r : Int) (hv : Utf8.valid r = true) (h1 : ¬ r.toNat < 128) (h2 : r.toNat < 2048) : (Utf8.encode r).data = #[UInt8.ofNat (192 + r.toNat / 64), UInt8.ofNat (128 + r.toNat % 64)] := by
  unfold Utf8.encode
  simp only [hv, if_true, h1, h2, if_false]
theorem enc3 (r : Int) (hv : Utf8.valid r = true) (h1 : ¬ r.toNat < 128) (h2 : ¬ r.toNat < 2048) (h3 : r.toNat < 65536) : (Utf8.encode r).data = #[UInt8.ofNat (224 + r.toNat / 4096), UInt8.ofNat (128 + r.toNat / 64 % 64), UInt8.ofNat (128 + r.toNat % 64)] := by
  unfold Utf8.encode
  simp only [hv, if_true, h1, h2, h3, if_false]
theorem enc4 (r : Int) (hv : Utf8.valid r = true) (h1 : ¬ r.toNat < 128) (h2 : ¬ r.toNat < 2048) (h3 : ¬ r.toNat < 65536) : (Utf8.encode r).data = #[UInt8.ofNat (240 + r.toNat / 262144), UInt8.ofNat (128 + r.toNat / 4096 % 64), UInt8.ofNat (128 + r.toNat / 64 % 64), UInt8.ofNat (128 + r.toNat % 64)] := by
  unfold Utf8.encode
  simp only [hv, if_true, h1, h2, h3, if_false]
theorem enc_eq {c : Int} (h : Val c) : numsOf (utf8Of c) = enc c := by
  have hv := val_valid h
  have h0 : 0 ≤ c ∧ c ≤ 1114111 := by unfold Val at h; omega
  have hn : (c.toNat : Int) = c := Int.toNat_of_nonneg h0.1
  unfold utf8Of enc numsOf
  by_cases h1 : c.toNat < 128
  · rw [enc1 c hv h1, if_pos (by omega)]
    simp only [List.map_cons, List.map_nil]
    rw [u8_nat (by omega), hn]
  rw [if_neg (by omega)]
  by_cases h2 : c.toNat < 2048
  · rw [enc2 c hv h1 h2, if_pos (by omega)]
    simp only [List.map_cons, List.map_nil]
    rw [u8_nat (by omega), u8_nat (by omega)]
    simp only [List.cons.injEq, and_true]; omega
  rw [if_neg (by omega)]
  by_cases h3 : c.toNat < 65536
  · rw [enc3 c hv h1 h2 h3, if_pos (by omega)]
    simp only [List.map_cons, List.map_nil]
    rw [u8_nat (by omega), u8_nat (by omega), u8_nat (by omega)]
    simp only [List.cons.injEq, and_true]; omega
  rw [enc4 c hv h1 h2 h3, if_neg (by omega)]
  simp only [List.map_cons, List.map_nil]
  rw [u8_nat (by omega), u8_nat (by omega), u8_nat (by omega), u8_nat (by omega)]
  simp only [List.cons.injEq, and_true]; omega

theorem cnt_full {b : List Int} {a : Nat} (h : ∀ k, 1 ≤ k → k ≤ lenS (b.getD a 0) - 1 → okS b a k = true) : cntS b a = lenS (b.getD a 0) - 1 := by
  unfold cntS
  refine firstN_uniq (Nat.le_refl _) (fun j hj => ?_) (fun hlt => absurd hlt (Nat.lt_irrefl _))
  rw [h (j + 1) (by omega) (by omega)]
  rfl

theorem enc_one {c : Int} (h : Val c) : oneS (enc c) 0 = (c, (enc c).length) ∧ Start (enc c) ∧ 0 < (enc c).length ∧ (enc c).length ≤ 4 := by
  unfold Val at h
  unfold enc
  by_cases h1 : c < 128
  · rw [if_pos h1]
    refine ⟨?_, .inr (.inl h1), by simp, by simp⟩
    unfold oneS lenS
    simp only [List.getD_cons_zero, if_pos h1]
    rfl
  rw [if_neg h1]
  by_cases h2 : c < 2048
  · rw [if_pos h2]
    refine ⟨?_, .inr (.inr (by rw [List.getD_cons_zero]; omega)), by simp, by simp⟩
    have hl : lenS (192 + c / 64) = 2 := by
      rcases lenS_in (192 + c / 64) with q | q | q | q | q
      · omega
      · exact q.1
      · omega
      · omega
      · unfold lenS at q
        rw [if_neg (by omega), if_pos (by omega)] at q; cases q
    have hf := cnt_full (b := [192 + c / 64, 128 + c % 64]) (a := 0) (fun k k1 k2 => by
      simp only [List.getD_cons_zero, hl] at k2
      have : k = 1 := by omega
      subst this
      unfold okS loS hiS
      simp only [List.getD_cons_zero, List.getD_cons_succ, Nat.zero_add, decide_eq_true_eq, if_true, List.length_cons, List.length_nil]
      refine ⟨by omega, ?_, ?_⟩
      · rw [if_neg (by omega), if_neg (by omega)]; omega
      · rw [if_neg (by omega), if_neg (by omega)]; omega)
    simp only [List.getD_cons_zero, hl] at hf
    unfold oneS
    simp only [List.getD_cons_zero, hl, hf]
    have e : ((2 ^ (7 - 2) : Nat) : Int) = 32 := by decide
    simp only [show ¬ (2 ≤ 1) by decide, if_false, if_true, numS, List.getD_cons_zero, List.getD_cons_succ, Nat.zero_add, hl, e, List.length_cons, List.length_nil, Prod.mk.injEq, and_true]
    omega
  rw [if_neg h2]
  by_cases h3 : c < 65536
  · rw [if_pos h3]
    refine ⟨?_, .inr (.inr (by rw [List.getD_cons_zero]; omega)), by simp, by simp⟩
    have hl : lenS (224 + c / 4096) = 3 := by
      rcases lenS_in (224 + c / 4096) with q | q | q | q | q
      · omega
      · omega
      · exact q.1
      · omega
      · unfold lenS at q
        rw [if_neg (by omega), if_neg (by omega), if_pos (by omega)] at q; cases q
    have hf := cnt_full (b := [224 + c / 4096, 128 + c / 64 % 64, 128 + c % 64]) (a := 0) (fun k k1 k2 => by
      simp only [List.getD_cons_zero, hl] at k2
      have : k = 1 ∨ k = 2 := by omega
      rcases this with rfl | rfl
      · unfold okS loS hiS
        simp only [List.getD_cons_zero, List.getD_cons_succ, Nat.zero_add, decide_eq_true_eq, if_true, List.length_cons, List.length_nil]
        refine ⟨by omega, ?_, ?_⟩
        · by_cases q : 224 + c / 4096 = 224
          · rw [if_pos q]; omega
          · rw [if_neg q, if_neg (by omega)]; omega
        · by_cases q : 224 + c / 4096 = 237
          · rw [if_pos q]; omega
          · rw [if_neg q, if_neg (by omega)]; omega
      · unfold okS
        simp only [List.getD_cons_zero, List.getD_cons_succ, Nat.zero_add, decide_eq_true_eq, List.length_cons, List.length_nil, show ¬ (2 = 1) by decide, if_false]
        omega)
    simp only [List.getD_cons_zero, hl] at hf
    unfold oneS
    simp only [List.getD_cons_zero, hl, hf]
    have e : ((2 ^ (7 - 3) : Nat) : Int) = 16 := by decide
    simp only [show ¬ (3 ≤ 1) by decide, if_false, if_true, numS, List.getD_cons_zero, List.getD_cons_succ, Nat.zero_add, hl, e, List.length_cons, List.length_nil, Prod.mk.injEq, and_true]
    omega
  rw [if_neg h3]
  refine ⟨?_, .inr (.inr (by rw [List.getD_cons_zero]; omega)), by simp, by simp⟩
  have hl : lenS (240 + c / 262144) = 4 := by
    rcases lenS_in (240 + c / 262144) with q | q | q | q | q
    · omega
    · omega
    · omega
    · exact q.1
    · unfold lenS at q
      rw [if_neg (by omega), if_neg (by omega), if_neg (by omega), if_pos (by omega)] at q; cases q
  have hf := cnt_full (b := [240 + c / 262144, 128 + c / 4096 % 64, 128 + c / 64 % 64, 128 + c % 64]) (a := 0) (fun k k1 k2 => by
    simp only [List.getD_cons_zero, hl] at k2
    have : k = 1 ∨ k = 2 ∨ k = 3 := by omega
    rcases this with rfl | rfl | rfl
    · unfold okS loS hiS
      simp only [List.getD_cons_zero, List.getD_cons_succ, Nat.zero_add, decide_eq_true_eq, if_true, List.length_cons, List.length_nil]
      refine ⟨by omega, ?_, ?_⟩
      · rw [if_neg (by omega)]
        by_cases q : 240 + c / 262144 = 240
        · rw [if_pos q]; omega
        · rw [if_neg q]; omega
      · rw [if_neg (by omega)]
        by_cases q : 240 + c / 262144 = 244
        · rw [if_pos q]; omega
        · rw [if_neg q]; omega
    · unfold okS
      simp only [List.getD_cons_zero, List.getD_cons_succ, Nat.zero_add, decide_eq_true_eq, List.length_cons, List.length_nil, show ¬ (2 = 1) by decide, if_false]
      omega
    · unfold okS
      simp only [List.getD_cons_zero, List.getD_cons_succ, Nat.zero_add, decide_eq_true_eq, List.length_cons, List.length_nil, show ¬ (3 = 1) by decide, if_false]
      omega)
  simp only [List.getD_cons_zero, hl] at hf
  unfold oneS
  simp only [List.getD_cons_zero, hl, hf]
  have e : ((2 ^ (7 - 4) : Nat) : Int) = 8 := by decide
  simp only [show ¬ (4 ≤ 1) by decide, if_false, if_true, numS, List.getD_cons_zero, List.getD_cons_succ, Nat.zero_add, hl, e, List.length_cons, List.length_nil, Prod.mk.injEq, and_true]
  omega

/-- The letters of a text. -/
def lt (b : List Int) : List Int := (sg b).map (·.1)
theorem map_shf (d : Nat) (l : List Sgn) : (l.map (shf d)).map (·.1) = l.map (·.1) := by rw [List.map_map]; rfl
theorem lt_append {x y : List Int} (hy : Start y) : lt (x ++ y) = lt x ++ lt y := by
  unfold lt
  rw [sg_append hy, List.map_append, map_shf]
theorem sg_enc {c : Int} (h : Val c) : sg (enc c) = [(c, 0, ((enc c).length : Int))] := by
  obtain ⟨h1, _, h3, _⟩ := enc_one h
  unfold sg
  obtain ⟨n, hn⟩ : ∃ n, (enc c).length = n + 1 := ⟨(enc c).length - 1, by omega⟩
  rw [hn]
  simp only [sgF, h1]
  rw [if_pos h3]
  have : sgF (enc c) n (0 + (enc c).length) = [] := by
    cases n with
    | zero => rfl
    | succ n => simp only [sgF]; rw [if_neg (by omega)]
  rw [this, hn]
  rfl
theorem lt_enc {c : Int} (h : Val c) {y : List Int} (hy : Start y) : lt (enc c ++ y) = c :: lt y := by
  rw [lt_append hy]
  unfold lt
  rw [sg_enc h]
  rfl
theorem start_enc {c : Int} (h : Val c) (y : List Int) : Start (enc c ++ y) := by
  obtain ⟨_, h2, h3, _⟩ := enc_one h
  unfold Start at h2 ⊢
  rw [getD_left h3]
  rcases h2 with q | q
  · omega
  · exact .inr q
theorem sg_val {b : List Int} (hb : Bytes b) : ∀ s ∈ sg b, s.1 ≠ 65533 → Val s.1 := by
  have key : ∀ n a, ∀ s ∈ sgF b n a, s.1 ≠ 65533 → Val s.1 := fun n => by
    induction n with
    | zero => intro a s hs; cases hs
    | succ n ih =>
      intro a s hs
      simp only [sgF] at hs
      split at hs
      · rcases List.mem_cons.mp hs with q | q
        · subst q; exact oneS_val hb a
        · exact ih _ s q
      · cases hs
  exact key _ _
end Go.Proofs.Ytcdmdcfpjeomfaa.T
