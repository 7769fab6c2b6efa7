/- Signs: the document's. -/
import Derived.Test.YtcdmdcfpjeomfaaTv07a
namespace Go.Proofs.Ytcdmdcfpjeomfaa.T
open Go Go.Tv Go.Proofs

theorem part_getD {b : List Int} {a m j : Nat} (hj : j ≤ m) : ((b.take (a + m + 1)).drop a).getD j 0 = b.getD (a + j) 0 := by
  rw [List.getD_eq_getElem?_getD, List.getElem?_drop, List.getElem?_take, if_pos (by omega), List.getD_eq_getElem?_getD]
theorem part_len {b : List Int} {a m : Nat} (h : a + m < b.length) : ((b.take (a + m + 1)).drop a).length = m + 1 := by
  rw [List.length_drop, List.length_take]; omega

theorem begins_eq {b : List Int} (hl : b.length ≤ 1000000) {a m : Nat} (h : a + m < b.length) (hm : ∀ j, 1 ≤ j → j < m → okS b a j = true) :
    stanzaref01_Begins ((b.take (a + m + 1)).drop a) = some (decide (m + 1 ≤ lenS (b.getD a 0)) && (m == 0 || okS b a m)) := by
  have gl := part_len h
  have g1 : 1 ≤ m → ((b.take (a + m + 1)).drop a).getD 1 0 = b.getD (a + 1) 0 := fun h1 => part_getD h1
  have gj : ∀ j, j ≤ m → ((b.take (a + m + 1)).drop a).getD j 0 = b.getD (a + j) 0 := fun j hj => part_getD hj
  generalize (b.take (a + m + 1)).drop a = s at *
  have g0 : s.getD 0 0 = b.getD a 0 := gj 0 (Nat.zero_le m)
  unfold stanzaref01_Begins
  have z0 : (0 : Int).toNat = 0 := rfl
  have z1 : (1 : Int).toNat = 1 := rfl
  simp only [gl, z0, z1, g0]
  rw [if_neg (by simp only [beq_iff_eq]; omega), if_pos ⟨by omega, by omega⟩, length_eq]
  simp only [Option.bind_some]
  by_cases h1 : ¬ m + 1 ≤ lenS (b.getD a 0)
  · rw [if_pos (by simp only [decide_eq_true_eq]; omega), decide_eq_false h1]; rfl
  have h1' : m + 1 ≤ lenS (b.getD a 0) := Decidable.not_not.1 h1
  rw [if_neg (by simp only [decide_eq_true_eq]; omega), decide_eq_true h1', Bool.true_and]
  have hin : ∀ j, 1 ≤ j → j < m → 128 ≤ b.getD (a + j) 0 ∧ b.getD (a + j) 0 ≤ 191 := fun j j1 j2 => (okS_in (hm j j1 j2)).2
  have step : ∀ j, 1 ≤ j → j ≤ m → 128 ≤ b.getD (a + j) 0 ∧ b.getD (a + j) 0 ≤ 191 → stanzaref01_Begins_L1 s (j : Int) = some (Sum.inl ((j + 1 : Nat) : Int)) := fun j j1 j2 hj => by
    have e1 : IntKind.i64.wrap ((j : Int) + 1) = ((j + 1 : Nat) : Int) := by rw [wrap_i64 (by omega) (by omega)]; omega
    simp only [stanzaref01_Begins_L1, gl, Int.toNat_natCast, gj j j2, e1]
    rw [if_pos (by simp only [decide_eq_true_eq]; omega), if_pos ⟨by omega, by omega⟩, if_neg (by simp only [decide_eq_true_eq]; omega), if_pos ⟨by omega, by omega⟩]
    simp only [Option.bind_some]
    rw [if_neg (by simp only [decide_eq_true_eq]; omega)]
  by_cases h0 : m = 0
  · subst h0
    have hi : iter (stanzaref01_Begins_L1 s) (1 : Int) = some (Sum.inl ()) := iter_count (body := stanzaref01_Begins_L1 s) (fun _ => (1 : Int)) 0 (fun k hk => absurd hk (by omega)) (by
      simp only [stanzaref01_Begins_L1, gl]
      rw [if_neg (by simp)])
    rw [hi]
    rfl
  by_cases hr : 128 ≤ b.getD (a + m) 0 ∧ b.getD (a + m) 0 ≤ 191
  · have hi := iter_count (body := stanzaref01_Begins_L1 s) (fun j => ((j + 1 : Nat) : Int)) m (r := Sum.inl ()) (fun j hj => by
      by_cases e : j + 1 = m
      · rw [e]; have := step m (by omega) (Nat.le_refl _) hr; rw [← e] at this; rw [← e]; exact this
      · exact step (j + 1) (by omega) (by omega) (hin (j + 1) (by omega) (by omega))) (by
      simp only [stanzaref01_Begins_L1, gl]
      rw [if_neg (by simp only [decide_eq_true_eq]; omega)])
    have hi' : iter (stanzaref01_Begins_L1 s) (1 : Int) = some (Sum.inl ()) := hi
    rw [hi']
    simp only [Option.bind_some]
    rw [if_neg (by simp only [beq_iff_eq]; omega), if_pos ⟨by omega, by omega⟩, g1 (by omega)]
    have hm0 : (m == 0) = false := by simpa using h0
    rw [hm0, Bool.false_or]
    have hok1 : m ≠ 1 → okS b a 1 = true := fun e => hm 1 (by omega) (by omega)
    have key : (if ((b.getD a 0) == (224 : Int)) = true then (if 0 ≤ (1 : Int) ∧ (1 : Int) < ((m + 1 : Nat) : Int) then some (decide (b.getD (a + 1) 0 ≥ (160 : Int))) else none)
        else (if ((b.getD a 0) == (237 : Int)) = true then (if 0 ≤ (1 : Int) ∧ (1 : Int) < ((m + 1 : Nat) : Int) then some (decide (b.getD (a + 1) 0 < (160 : Int))) else none)
        else (if ((b.getD a 0) == (240 : Int)) = true then (if 0 ≤ (1 : Int) ∧ (1 : Int) < ((m + 1 : Nat) : Int) then some (decide (b.getD (a + 1) 0 ≥ (144 : Int))) else none)
        else (if ((b.getD a 0) == (244 : Int)) = true then (if 0 ≤ (1 : Int) ∧ (1 : Int) < ((m + 1 : Nat) : Int) then some (decide (b.getD (a + 1) 0 < (144 : Int))) else none)
        else some true)))) = some (decide ((128 ≤ b.getD (a + 1) 0 ∧ b.getD (a + 1) 0 ≤ 191) → loS (b.getD a 0) ≤ b.getD (a + 1) 0 ∧ b.getD (a + 1) 0 ≤ hiS (b.getD a 0))) := by
      have hb1 : 128 ≤ b.getD (a + 1) 0 ∧ b.getD (a + 1) 0 ≤ 191 := by
        by_cases e : m = 1
        · subst e; exact hr
        · exact hin 1 (by omega) (by omega)
      unfold loS hiS
      by_cases k1 : b.getD a 0 = 224
      · rw [if_pos (by simpa using k1), if_pos ⟨by omega, by omega⟩, k1]; congr 1; rw [decide_eq_decide]; simp only [if_true, if_false, Int.reduceEq]; omega
      rw [if_neg (by simpa using k1), if_neg k1]
      by_cases k2 : b.getD a 0 = 237
      · rw [if_pos (by simpa using k2), if_pos ⟨by omega, by omega⟩, k2]; congr 1; rw [decide_eq_decide]; simp only [if_true, if_false, Int.reduceEq]; omega
      rw [if_neg (by simpa using k2), if_neg k2]
      by_cases k3 : b.getD a 0 = 240
      · rw [if_pos (by simpa using k3), if_pos ⟨by omega, by omega⟩, k3]; congr 1; rw [decide_eq_decide]; simp only [if_true, if_false, Int.reduceEq]; omega
      rw [if_neg (by simpa using k3), if_neg k3]
      by_cases k4 : b.getD a 0 = 244
      · rw [if_pos (by simpa using k4), if_pos ⟨by omega, by omega⟩, k4]; congr 1; rw [decide_eq_decide]; simp only [if_true, if_false, Int.reduceEq]; omega
      rw [if_neg (by simpa using k4), if_neg k4]
      congr 1
      symm
      rw [decide_eq_true_eq]
      intro _
      omega
    rw [key]
    congr 1
    by_cases e : m = 1
    · subst e
      unfold okS
      simp only [decide_eq_decide, if_true]
      omega
    · have ho := hok1 e
      have hom : okS b a m = true := by
        unfold okS
        simp only [if_neg e, decide_eq_true_eq]
        omega
      rw [hom, decide_eq_true_eq]
      intro _
      unfold okS at ho
      simp only [decide_eq_true_eq, if_true] at ho
      omega
  · have hno : okS b a m = false := by
      cases ho : okS b a m with
      | false => rfl
      | true => exact absurd (okS_in ho).2 hr
    have hm0 : (m == 0) = false := by simpa using h0
    rw [hm0, Bool.false_or, hno]
    have hi := iter_count (body := stanzaref01_Begins_L1 s) (fun j => ((j + 1 : Nat) : Int)) (m - 1) (r := Sum.inr false) (fun j hj => step (j + 1) (by omega) (by omega) (hin (j + 1) (by omega) (by omega))) (by
      have e : m - 1 + 1 = m := by omega
      simp only [stanzaref01_Begins_L1, gl, e, Int.toNat_natCast, gj m (Nat.le_refl _)]
      rw [if_pos (by simp only [decide_eq_true_eq]; omega), if_pos ⟨by omega, by omega⟩]
      by_cases q : b.getD (a + m) 0 < 128
      · rw [if_pos (by simpa using q)]; rfl
      · rw [if_neg (by simpa using q), if_pos ⟨by omega, by omega⟩]
        have : decide (b.getD (a + m) 0 > 191) = true := by simp only [decide_eq_true_eq]; omega
        rw [this]; rfl)
    have hi' : iter (stanzaref01_Begins_L1 s) (1 : Int) = some (Sum.inr false) := hi
    rw [hi']
    rfl

theorem ref_L2 {b : List Int} (hl : b.length ≤ 1000000) {a : Nat} (ha : a < b.length) (h2 : 2 ≤ lenS (b.getD a 0)) (hc : cntS b a = lenS (b.getD a 0) - 1) : iter (stanzaref01_One_L2 b (a : Int) (lenS (b.getD a 0) : Int)) (numS b a 0, (1 : Int)) = some (numS b a (cntS b a)) := by
  have hc3 := cntS_3 b a
  have h4 := lenS_le (b.getD a 0)
  exact iter_count (body := stanzaref01_One_L2 b (a : Int) (lenS (b.getD a 0) : Int)) (fun j => (numS b a j, ((j + 1 : Nat) : Int))) (cntS b a) (fun j hj => by
    have hin := okS_in (cntS_ok (b := b) (a := a) (k := j + 1) (by omega) (by omega))
    have hnum := numS_in h2 j (by omega)
    have hk64 : ((64 ^ j : Nat) : Int) ≤ 4096 := by
      have : (64 : Nat) ^ j ≤ 64 ^ 2 := Nat.pow_le_pow_right (by decide) (by omega)
      omega
    have e0 : IntKind.i64.wrap ((a : Int) + ((j + 1 : Nat) : Int)) = ((a + (j + 1) : Nat) : Int) := by rw [wrap_i64 (by omega) (by omega)]; omega
    have e1 : IntKind.i64.wrap (((j + 1 : Nat) : Int) + 1) = ((j + 1 + 1 : Nat) : Int) := by rw [wrap_i64 (by omega) (by omega)]; omega
    have e2 : IntKind.i32.wrap (IntKind.i32.wrap (IntKind.i32.wrap (numS b a j * 64) + IntKind.i32.wrap (b.getD (a + (j + 1)) 0)) - 128) = numS b a (j + 1) := by
      rw [wrap_i32 (x := numS b a j * 64) (by omega) (by omega), wrap_i32 (x := b.getD (a + (j + 1)) 0) (by omega) (by omega), wrap_i32 (x := numS b a j * 64 + b.getD (a + (j + 1)) 0) (by omega) (by omega), wrap_i32 (by omega) (by omega)]
      simp only [numS]
      omega
    simp only [stanzaref01_One_L2, e0, e1, Int.toNat_natCast, e2]
    rw [if_pos (by simp only [decide_eq_true_eq]; omega), if_pos ⟨by omega, by omega⟩]) (by
    simp only [stanzaref01_One_L2]
    rw [if_neg (by simp only [decide_eq_true_eq]; omega)])

theorem ref_L1 {b : List Int} (hl : b.length ≤ 1000000) {a : Nat} (ha : a < b.length) : iter (stanzaref01_One_L1 b (a : Int)) (0 : Int) = some (((if lenS (b.getD a 0) = 0 then 0 else cntS b a + 1 : Nat)) : Int) := by
  have hc := cntS_le b a
  have hc3 := cntS_3 b a
  have h4 := lenS_le (b.getD a 0)
  have begin : ∀ v, a + v < b.length → v ≤ cntS b a + 1 → v < 4 → stanzaref01_One_L1 b (a : Int) (v : Int) = (if (decide (v + 1 ≤ lenS (b.getD a 0)) && (v == 0 || okS b a v)) = true then some (Sum.inl ((v + 1 : Nat) : Int)) else some (Sum.inr (v : Int))) := fun v h1 h2 h3 => by
    have e1 : IntKind.i64.wrap (IntKind.i64.wrap ((a : Int) + (v : Int)) + 1) = ((a + v + 1 : Nat) : Int) := by rw [wrap_i64 (x := (a : Int) + v) (by omega) (by omega), wrap_i64 (by omega) (by omega)]; omega
    have e2 : IntKind.i64.wrap ((b.length : Int) - (a : Int)) = (b.length : Int) - a := wrap_i64 (by omega) (by omega)
    have e3 : IntKind.i64.wrap ((v : Int) + 1) = ((v + 1 : Nat) : Int) := by rw [wrap_i64 (by omega) (by omega)]; omega
    simp only [stanzaref01_One_L1, e1, e2, e3, Int.toNat_natCast]
    rw [if_pos (by simp only [decide_eq_true_eq]; omega), if_pos (by simp only [decide_eq_true_eq]; omega), if_pos ⟨by omega, by omega, by omega⟩, begins_eq hl h1 (fun j j1 j2 => cntS_ok j1 (by omega))]
    rfl
  by_cases h0 : lenS (b.getD a 0) = 0
  · rw [if_pos h0]
    exact iter_count (body := stanzaref01_One_L1 b (a : Int)) (fun _ => (0 : Int)) 0 (fun k hk => absurd hk (by omega)) (by
      have := begin 0 (by omega) (by omega) (by omega)
      rw [h0] at this
      exact this)
  · rw [if_neg h0]
    exact iter_count (body := stanzaref01_One_L1 b (a : Int)) (fun v => (v : Int)) (cntS b a + 1) (fun v hv => by
      by_cases e : v = 0
      · subst e
        rw [begin 0 (by omega) (by omega) (by omega), if_pos (by simp only [beq_self_eq_true, Bool.true_or, Bool.and_true, decide_eq_true_eq]; omega)]
      · have ho := cntS_ok (b := b) (a := a) (k := v) (by omega) (by omega)
        have hin := okS_in ho
        rw [begin v (by omega) (by omega) (by omega), ho, if_pos (by rw [Bool.or_true, Bool.and_true, decide_eq_true_eq]; omega)]) (by
      by_cases q1 : cntS b a + 1 < 4
      · by_cases q2 : a + (cntS b a + 1) < b.length
        · rw [begin (cntS b a + 1) q2 (by omega) q1]
          by_cases q3 : cntS b a < lenS (b.getD a 0) - 1
          · rw [cntS_not q3, if_neg (by simp)]
          · rw [if_neg (by rw [decide_eq_false (by omega)]; simp)]
        · simp only [stanzaref01_One_L1]
          rw [if_pos (by simp only [decide_eq_true_eq]; omega), wrap_i64 (x := (b.length : Int) - a) (by omega) (by omega), if_neg (by simp only [decide_eq_true_eq]; omega)]
          rfl
      · simp only [stanzaref01_One_L1]
        rw [if_neg (by simp only [decide_eq_true_eq]; omega)]
        rfl)

section
variable {b : List Int} (hb : Bytes b) (hl : b.length ≤ 1000000)
include hb hl

theorem refOne_eq {a : Nat} (ha : a < b.length) : stanzaref01_One b (a : Int) = some ((oneS b a).1, ((a : Int), ((oneS b a).2 : Int))) := by
  have hc := hb.get a
  have hcn := cntS_le b a
  have h4 := lenS_le (b.getD a 0)
  unfold stanzaref01_One oneS
  rw [if_neg (by simp only [decide_eq_true_eq]; omega)]
  simp only [Option.bind_some]
  rw [if_neg (by simp only [decide_eq_true_eq]; omega), ref_L1 hl ha]
  simp only [Option.bind_some]
  by_cases h0 : lenS (b.getD a 0) = 0
  · rw [if_pos h0, if_pos (by simp), if_pos (by omega), if_neg (by omega)]; rfl
  rw [if_neg h0, if_neg (by simp only [beq_iff_eq]; omega), if_pos ⟨by omega, by omega⟩, Int.toNat_natCast, length_eq]
  simp only [Option.bind_some]
  by_cases q : cntS b a = lenS (b.getD a 0) - 1
  · have e1 : cntS b a + 1 = lenS (b.getD a 0) := by omega
    have hmask : (([(0 : Int), (127 : Int), (31 : Int), (15 : Int), (7 : Int)] : List Int).getD ((cntS b a + 1 : Nat) : Int).toNat (0 : Int)) = if lenS (b.getD a 0) = 1 then 127 else ((2 ^ (7 - lenS (b.getD a 0)) - 1 : Nat) : Int) := by
      rw [e1, Int.toNat_natCast]
      generalize lenS (b.getD a 0) = n at h0 h4
      have : n = 1 ∨ n = 2 ∨ n = 3 ∨ n = 4 := by omega
      rcases this with rfl | rfl | rfl | rfl <;> decide
    rw [if_neg (by simp only [decide_eq_true_eq]; omega), if_pos ⟨by omega, by omega⟩, if_pos ⟨by omega, by simp only [List.length_cons, List.length_nil]; omega⟩, if_pos (by simp only [List.length_cons, List.length_nil]; omega), hmask, wrap_i32 (by omega) (by omega)]
    by_cases h1 : lenS (b.getD a 0) = 1
    · have hlt : b.getD a 0 < 128 := by
        unfold lenS at h1
        split at h1
        · assumption
        · split at h1
          · omega
          · split at h1
            · omega
            · split at h1 <;> omega
      have e2 := and_i32 hc.1 (by omega) (k := 7) (by decide)
      have e7 : ((2 ^ 7 - 1 : Nat) : Int) = 127 := by decide
      have e8 : ((2 ^ 7 : Nat) : Int) = 128 := by decide
      rw [e7, e8] at e2
      have c0 : cntS b a = 0 := by omega
      rw [if_pos h1, e2, if_pos (by omega), if_pos h1, c0]
      have hi : iter (stanzaref01_One_L2 b (a : Int) ((0 + 1 : Nat) : Int)) (b.getD a 0 % 128, (1 : Int)) = some (b.getD a 0 % 128) := iter_count (body := stanzaref01_One_L2 b (a : Int) ((0 + 1 : Nat) : Int)) (fun _ => (b.getD a 0 % 128, (1 : Int))) 0 (fun k hk => absurd hk (by omega)) (by
        simp only [stanzaref01_One_L2]
        rw [if_neg (by simp)])
      rw [hi]
      simp only [Option.bind_some]
      have : b.getD a 0 % 128 = b.getD a 0 := by omega
      rw [this]
    · rw [if_neg h1, and_i32 hc.1 (by omega) (by omega), if_neg (by omega), if_pos q, e1]
      have := ref_L2 hl ha (by omega) q
      simp only [numS] at this
      rw [this]
      rfl
  · rw [if_pos (by simp only [decide_eq_true_eq]; omega), if_neg (by omega), if_neg q]
end

theorem oneS_len {b : List Int} {a : Nat} (ha : a < b.length) : 1 ≤ (oneS b a).2 ∧ a + (oneS b a).2 ≤ b.length := by
  unfold oneS
  have key : a + (cntS b a + 1) ≤ b.length := by
    rcases Nat.eq_zero_or_pos (cntS b a) with e | e
    · omega
    · have := (okS_in (cntS_ok (b := b) (a := a) e (Nat.le_refl _))).1
      omega
  split
  · exact ⟨Nat.le_refl _, ha⟩
  · split
    · exact ⟨by omega, key⟩
    · exact ⟨by omega, key⟩

/-- The same signs. -/
theorem all_same {b : List Int} (hb : Bytes b) (hl : b.length ≤ 1000000) : ∃ s : List (Int × Int × Int), scal_All b = some s ∧ stanzaref01_All b = some s ∧ s.length ≤ b.length := by
  have key : ∀ (f : List Int → Int → Option (Int × Int × Int)), (∀ a : Nat, a < b.length → f b (a : Int) = some ((oneS b a).1, ((a : Int), ((oneS b a).2 : Int)))) → ∀ s : List (Int × Int × Int) × Int, (∃ a : Nat, s.2 = (a : Int) ∧ a ≤ b.length ∧ s.1.length ≤ a) →
      (s.2 < (b.length : Int) → ∃ y, ((f b s.2).bind fun (r6 : Int × Int × Int) => (if (s.1.length + ([(r6.1, (r6.2.1, r6.2.2))] : List (Int × Int × Int)).length) * 24 ≤ 140737488355328 ∧ s.1.length + ([(r6.1, (r6.2.1, r6.2.2))] : List (Int × Int × Int)).length ≤ 9223372036854775807 then some (Sum.inl ((s.1 ++ ([(r6.1, (r6.2.1, r6.2.2))] : List (Int × Int × Int))), (IntKind.i64.wrap (s.2 + r6.2.2)))) else none : Option ((List (Int × Int × Int) × Int) ⊕ List (Int × Int × Int)))) = some (Sum.inl y) ∧
        y = (s.1 ++ [((oneS b s.2.toNat).1, (s.2, ((oneS b s.2.toNat).2 : Int)))], s.2 + ((oneS b s.2.toNat).2 : Int)) ∧ (∃ a : Nat, y.2 = (a : Int) ∧ a ≤ b.length ∧ y.1.length ≤ a) ∧ b.length - y.2.toNat < b.length - s.2.toNat) := fun f hf ⟨l, p⟩ ⟨a, e, h1, h2⟩ hlt => by
    simp only at e h2 hlt
    subst e
    have ha : a < b.length := by omega
    have hon := oneS_len ha
    rw [hf a ha]
    simp only [Option.bind_some, Int.toNat_natCast]
    rw [if_pos ⟨by simp only [List.length_cons, List.length_nil]; omega, by simp only [List.length_cons, List.length_nil]; omega⟩, wrap_i64 (by omega) (by omega)]
    exact ⟨_, rfl, rfl, ⟨a + (oneS b a).2, by simp only; omega, by omega, by simp only [List.length_append, List.length_cons, List.length_nil]; omega⟩, by simp only; omega⟩
  obtain ⟨r, h1, h2⟩ := iter_rule (body := scal_All_L1 b) (fun s => ∃ a : Nat, s.2 = (a : Int) ∧ a ≤ b.length ∧ s.1.length ≤ a) (fun s => b.length - s.2.toNat) (fun r => r.length ≤ b.length)
    (fun s hs => by
      by_cases q : s.2 < (b.length : Int)
      · obtain ⟨y, y1, _, y3, y4⟩ := key scal_One (fun a ha => scalOne_eq hb hl ha) s hs q
        left
        refine ⟨y, ?_, y3, y4⟩
        rw [← y1]
        simp only [scal_All_L1]
        rw [if_pos (by simpa using q)]
      · right
        obtain ⟨a, e, q1, q2⟩ := hs
        refine ⟨s.1, ?_, by omega⟩
        simp only [scal_All_L1]
        rw [if_neg (by simpa using q)])
    (s := (([] : List (Int × Int × Int)), (0 : Int))) ⟨0, rfl, by omega, by simp⟩
  refine ⟨r, by unfold scal_All; rw [h1]; rfl, ?_, h2⟩
  obtain ⟨r', h3, h4⟩ := iter_sim (body := scal_All_L1 b) (body' := stanzaref01_All_L1 b) (fun s s' => s' = s ∧ ∃ a : Nat, s.2 = (a : Int) ∧ a ≤ b.length ∧ s.1.length ≤ a) (fun r r' => r' = r)
    (fun s s' o ⟨e, hs⟩ ho => by
      subst e
      refine ⟨o, ?_, ?_⟩
      · by_cases q : s'.2 < (b.length : Int)
        · obtain ⟨y, y1, y2, _, _⟩ := key scal_One (fun a ha => scalOne_eq hb hl ha) s' hs q
          obtain ⟨z, z1, z2, _, _⟩ := key stanzaref01_One (fun a ha => refOne_eq hb hl ha) s' hs q
          simp only [scal_All_L1] at ho
          rw [if_pos (by simpa using q), y1] at ho
          simp only [stanzaref01_All_L1]
          rw [if_pos (by simpa using q), z1, z2, ← y2]
          exact ho
        · simp only [scal_All_L1] at ho
          rw [if_neg (by simpa using q)] at ho
          simp only [stanzaref01_All_L1]
          rw [if_neg (by simpa using q)]
          exact ho
      · by_cases q : s'.2 < (b.length : Int)
        · obtain ⟨y, y1, y2, y3, _⟩ := key scal_One (fun a ha => scalOne_eq hb hl ha) s' hs q
          simp only [scal_All_L1] at ho
          rw [if_pos (by simpa using q), y1] at ho
          obtain rfl := Option.some.inj ho
          exact ⟨rfl, y3⟩
        · simp only [scal_All_L1] at ho
          rw [if_neg (by simpa using q)] at ho
          obtain rfl := Option.some.inj ho
          rfl)
    (s := (([] : List (Int × Int × Int)), (0 : Int))) (s' := (([] : List (Int × Int × Int)), (0 : Int))) ⟨rfl, 0, rfl, by omega, by simp⟩ h1
  unfold stanzaref01_All
  rw [h3, h4]
  rfl
end Go.Proofs.Ytcdmdcfpjeomfaa.T
